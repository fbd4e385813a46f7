/- Any words, places and signs come to what the reference says: Sign, Bits, High, Div, Rem, Less, Right and Left. -/
import Derived.Test.YthpaieglgjjbiaaQWordSaysx3
import Derived.Test.YthpaieglgjjbiaaBv
set_option linter.unusedSimpArgs false
namespace Go.Proofs.Ythpaieglgjjbiaa.Pure
open Go.RowKit Go.Proofs.Ythpaieglgjjbiaa.QWordSays Go.Proofs.YthpaieglgjjbiaaW.PrintWords Go.Proofs.YthpaieglgjjbiaaW.PrintLast Go.Proofs.YthpaieglgjjbiaaW.PrintMore Go.Proofs.Ythpaieglgjjbiaa.Bv
namespace WordSaysP
theorem mask_eq (n : Int) : word_mask.f n = some (U (maskB n)) := by
  unfold word_mask.f maskB
  by_cases h : n ≥ 32
  · rw [if_pos h, if_pos h]; rfl
  · rw [if_neg h, if_neg h, shl_U, mod_U]
    have e1 : BitVec.ofInt 32 1 = 1#32 := rfl
    have e2 : (mx n 0).toNat = n.toNat := by unfold mx; split <;> omega
    congr 2
    rw [e2, e1, Bv.ofInt_sub, ofInt_U, e1]
def bitsB (w : BitVec 32) (lo n : Int) : BitVec 32 := if lo < 0 then 0#32 else (w >>> lo.toNat) &&& maskB n
theorem bitsB_bit (w : BitVec 32) (lo n : Int) (i : Nat) : (bitsB w lo n).getLsbD i = (decide (0 ≤ lo) && (decide ((i : Int) < n) && w.getLsbD (lo.toNat + i))) := by
  unfold bitsB
  by_cases h : lo < 0
  · rw [if_pos h]; have : ¬ 0 ≤ lo := by omega
    simp [this]
  · rw [if_neg h, BitVec.getLsbD_and, maskB_bit, BitVec.getLsbD_ushiftRight]
    have h0 : 0 ≤ lo := by omega
    by_cases hi : i < 32
    · simp [hi, h0, Bool.and_comm]
    · rw [BitVec.getLsbD_of_ge w (lo.toNat + i) (by omega)]; simp
theorem bits_eq (w : BitVec 32) (lo n : Int) : word_Bits.f (U w) lo n = some (U (bitsB w lo n)) := by
  have h0 : (0 : Int) = U 0#32 := rfl
  unfold word_Bits.f
  by_cases h1 : lo < 0
  · rw [if_pos h1]; unfold bitsB; rw [if_pos h1]; rfl
  rw [if_neg h1]
  by_cases h2 : lo ≥ 32
  · rw [if_pos h2]; unfold bitsB; rw [if_neg h1, BitVec.ushiftRight_eq_zero (by omega)]; simp; rfl
  rw [if_neg h2]
  by_cases h3 : n < 1
  · rw [if_pos h3]
    have : bitsB w lo n = 0#32 := by
      apply BitVec.eq_of_getLsbD_eq; intro i hi; rw [bitsB_bit]
      have : ¬ (i : Int) < n := by omega
      simp [this]
    rw [this]; rfl
  rw [if_neg h3, if_pos (by omega)]
  simp only [mask_eq, Option.bind_some, shr_U, and_U, ofInt_U]
  unfold bitsB; rw [if_neg h1]
theorem left_eq (w : BitVec 32) (n : Int) : word_Left.f (U w) n = some (U (w <<< (n % 32).toNat)) := by
  unfold word_Left.f
  rw [and31, if_pos (by omega), shl_U, ofInt_U]
theorem right_eq (w : BitVec 32) (n : Int) : word_Right.f (U w) n false = some (U (w >>> (n % 32).toNat)) := by
  unfold word_Right.f
  rw [if_neg (by decide), and31, if_pos (by omega), shr_U]
theorem sar_eq (w : BitVec 32) (n : Int) : word_Right.f (U w) n true = some (U (w.sshiftRight (n % 32).toNat)) := by
  unfold word_Right.f
  rw [if_pos rfl, and31, if_pos (by omega), wrap32_U, sar_U _ _ (by omega)]
def signB (w : BitVec 32) (n : Int) : BitVec 32 := if n < 1 then 0#32 else if n ≥ 32 then w else (w <<< (32 - n).toNat).sshiftRight (32 - n).toNat
theorem sign_eq (w : BitVec 32) (n : Int) : word_Sign.f (U w) n = some (U (signB w n)) := by
  unfold word_Sign.f signB
  by_cases h1 : n < 1
  · rw [if_pos h1, if_pos h1]; rfl
  rw [if_neg h1, if_neg h1]
  by_cases h2 : n ≥ 32
  · rw [if_pos h2, if_pos h2]
  rw [if_neg h2, if_neg h2]
  have e : wrap64 (32 - n) = 32 - n := by unfold wrap64; omega
  rw [e, if_pos (by omega), shl_U, ofInt_U, wrap32_U, sar_U _ _ (by omega)]
theorem signB_bit (w : BitVec 32) (n : Int) (h1 : 1 ≤ n) (h2 : n ≤ 32) (i : Nat) (hi : i < 32) : (signB w n).getLsbD i = w.getLsbD (if (i : Int) < n then i else (n - 1).toNat) := by
  unfold signB
  rw [if_neg (by omega)]
  by_cases h : n ≥ 32
  · rw [if_pos h, if_pos (by omega)]
  rw [if_neg h, BitVec.getLsbD_sshiftRight, BitVec.msb_eq_getLsbD_last, BitVec.getLsbD_shiftLeft, BitVec.getLsbD_shiftLeft]
  obtain ⟨m, hm⟩ : ∃ m : Nat, (32 - n).toNat = m := ⟨_, rfl⟩
  rw [hm]
  by_cases c : (i : Int) < n
  · have a1 : m + i < 32 := by omega
    have a2 : m + i - m = i := by omega
    have a3 : ¬ m + i < m := by omega
    have a4 : ¬ 32 ≤ i := by omega
    rw [if_pos c, if_pos a1, decide_eq_true a1, decide_eq_false a3, decide_eq_false a4, a2]
    simp
  · have a1 : ¬ m + i < 32 := by omega
    have a2 : (n - 1).toNat = 32 - 1 - m := by omega
    have a3 : ¬ 32 - 1 < m := by omega
    have a4 : ¬ 32 ≤ i := by omega
    rw [if_neg c, if_neg a1, decide_eq_false a3, decide_eq_false a4, a2]
    simp
theorem less_eq (a b : BitVec 32) : word_Less.f (U a) (U b) false = some (decide (a < b)) := by
  unfold word_Less.f
  rw [if_neg (by decide)]
  congr 1; exact decide_eq_decide.2 (lt_U a b)
theorem lessS_eq (a b : BitVec 32) : word_Less.f (U a) (U b) true = some (decide (a.toInt < b.toInt)) := by
  unfold word_Less.f
  rw [if_pos rfl, wrap32_U, wrap32_U]

theorem first_true : corrallaw1_first.f 60 = some true := by decide +kernel
theorem wrap_u64 (n : Int) : IntKind.u64.wrap n = n % 18446744073709551616 := by
  simp [IntKind.wrap, IntKind.bits, IntKind.signed]
theorem mask_small (n : Int) (h : n < 32) : (shl .u32 1 n - 1) % 4294967296 = U (maskB n) := by
  have e1 : BitVec.ofInt 32 1 = 1#32 := rfl
  unfold maskB
  rw [if_neg (by omega), shl_U, mod_U, Bv.ofInt_sub, ofInt_U, e1]
theorem top_one (w : BitVec 32) (n : Int) (h1 : 1 ≤ n) (h2 : n ≤ 31) : U ((w &&& maskB n) >>> (n - 1).toNat) = 1 ↔ w.getLsbD (n - 1).toNat = true := by
  obtain ⟨m, hm⟩ : ∃ m : Nat, (n - 1).toNat = m := ⟨_, rfl⟩
  rw [hm]
  show U ((w &&& maskB n) >>> m) = U 1#32 ↔ _
  rw [U_inj]
  have hb : ∀ i, ((w &&& maskB n) >>> m).getLsbD i = (decide (i = 0) && w.getLsbD m) := by
    intro i
    rw [BitVec.getLsbD_ushiftRight, BitVec.getLsbD_and, maskB_bit]
    by_cases c : i = 0
    · subst c
      have a1 : m + 0 < 32 := by omega
      have a2 : ((m + 0 : Nat) : Int) < n := by omega
      rw [decide_eq_true a1, decide_eq_true a2]; simp
    · have a2 : ¬ ((m + i : Nat) : Int) < n := by omega
      rw [decide_eq_false a2, decide_eq_false c]; simp
  have h1b : ∀ i, (1#32).getLsbD i = decide (i = 0) := by
    intro i
    by_cases c : i < 32
    · have : ∀ j : Fin 32, (1#32).getLsbD j.val = decide (j.val = 0) := by decide
      exact this ⟨i, c⟩
    · rw [BitVec.getLsbD_of_ge _ _ (by omega), decide_eq_false (by omega)]
  constructor
  · intro h
    have := congrArg (fun v => v.getLsbD 0) h
    simp only [hb, h1b] at this
    simpa using this
  · intro h
    apply BitVec.eq_of_getLsbD_eq; intro i hi
    rw [hb, h1b, h]; simp
theorem refSign_eq (w : BitVec 32) (n : Int) : corralref1_Sign.f (U w) n = some (U (signB w n)) := by
  unfold corralref1_Sign.f
  by_cases h1 : n < 1
  · rw [if_pos h1]; unfold signB; rw [if_pos h1]; rfl
  rw [if_neg h1]
  by_cases h2 : n > 31
  · rw [if_pos h2]; unfold signB; rw [if_neg h1, if_pos (by omega)]
  rw [if_neg h2]
  have e1 : IntKind.u64.wrap n = n := by rw [wrap_u64]; omega
  have e2 : wrap64 (n - 1) = n - 1 := by unfold wrap64; omega
  have e3 : IntKind.u64.wrap (n - 1) = n - 1 := by rw [wrap_u64]; omega
  have em : BitVec.ofInt 32 4294967295 = BitVec.allOnes 32 := by decide
  rw [e1, e2, e3, if_pos (by omega), if_pos (by omega), mask_small n (by omega), and_U, ofInt_U, ofInt_U, shr_U]
  have ht := top_one w n (by omega) (by omega)
  have ha : 1 ≤ n := by omega
  have hb : n ≤ 32 := by omega
  have am : (n - 1).toNat < 32 := by omega
  by_cases c : w.getLsbD (n - 1).toNat = true
  · rw [if_pos (ht.2 c), xor_U, or_U, ofInt_U, ofInt_U, ofInt_U, em]
    congr 2
    apply BitVec.eq_of_getLsbD_eq; intro i hi
    rw [signB_bit w n ha hb i hi, BitVec.getLsbD_or, BitVec.getLsbD_and, BitVec.getLsbD_xor, BitVec.getLsbD_allOnes, maskB_bit, decide_eq_true hi]
    by_cases d : (i : Int) < n
    · rw [if_pos d, decide_eq_true d]; simp
    · rw [if_neg d, decide_eq_false d, c]; simp
  · have c : w.getLsbD (n - 1).toNat = false := by simpa using c
    rw [if_neg (fun h => by rw [ht.1 h] at c; cases c)]
    congr 2
    apply BitVec.eq_of_getLsbD_eq; intro i hi
    rw [signB_bit w n ha hb i hi, BitVec.getLsbD_and, maskB_bit, decide_eq_true hi]
    by_cases d : (i : Int) < n
    · rw [if_pos d, decide_eq_true d]; simp
    · rw [if_neg d, decide_eq_false d, c]; simp
theorem refBits_eq (w : BitVec 32) (lo n : Int) (h9 : n ≤ 9223372036854775807) : corralref1_Bits.f 60 (U w) lo n = some (U (bitsB w lo n)) := by
  have z : (0 : Int) = U 0#32 := rfl
  have hj : corralref1_Bits.j0 60 (U w) lo n true = some 0 := rfl
  unfold corralref1_Bits.f
  by_cases h1 : lo < 0
  · rw [if_pos h1, hj]; unfold bitsB; rw [if_pos h1]; rfl
  rw [if_neg h1]
  by_cases h2 : lo > 31
  · rw [if_pos h2, hj]; unfold bitsB; rw [if_neg h1, BitVec.ushiftRight_eq_zero (by omega)]; simp; rfl
  rw [if_neg h2]
  have e1 : IntKind.u64.wrap lo = lo := by rw [wrap_u64]; omega
  by_cases h3 : n < 1
  · rw [decide_eq_true h3, hj]
    have : bitsB w lo n = 0#32 := by
      apply BitVec.eq_of_getLsbD_eq; intro i hi; rw [bitsB_bit]
      have : ¬ (i : Int) < n := by omega
      simp [this]
    rw [this]; rfl
  rw [decide_eq_false h3]
  have e2 : IntKind.u64.wrap n = n := by rw [wrap_u64]; omega
  have ej : corralref1_Bits.j0 60 (U w) lo n false = (if 0 ≤ (IntKind.u64.wrap (lo)) then (if n ≥ 32 then (some (shr .u32 (U w) (IntKind.u64.wrap (lo)))) else (if 0 ≤ (IntKind.u64.wrap (n)) then (some (Go.bits .and .u32 (shr .u32 (U w) (IntKind.u64.wrap (lo))) (((shl .u32 1 (IntKind.u64.wrap (n))) - 1) % 4294967296))) else (none))) else (none)) := rfl
  rw [ej, e1, e2, if_pos (by omega)]
  by_cases h4 : n ≥ 32
  · rw [if_pos h4, shr_U]
    congr 2
    apply BitVec.eq_of_getLsbD_eq; intro i hi
    have a1 : (i : Int) < n := by omega
    have a2 : 0 ≤ lo := by omega
    rw [bitsB_bit, BitVec.getLsbD_ushiftRight, decide_eq_true a1, decide_eq_true a2]; simp
  · rw [if_neg h4, if_pos (by omega), shr_U, mask_small n (by omega), and_U, ofInt_U, ofInt_U]
    unfold bitsB; rw [if_neg h1]
/-- A word's number, with its sign or without. -/
def X (s : Bool) (w : BitVec 32) : Int := if s = true then w.toInt else U w
theorem X_bd (s : Bool) (w : BitVec 32) : -2147483648 ≤ X s w ∧ X s w < 4294967296 := by
  unfold X U
  have := w.isLt
  split
  · rw [BitVec.toInt_eq_toNat_cond]; split <;> omega
  · omega
theorem wide_eq (s : Bool) (w : BitVec 32) : word_wide.f (U w) s = some (X s w % 18446744073709551616) := by
  unfold word_wide.f
  cases s with
  | true =>
    rw [if_pos rfl, wrap32_U, wrap_u64]
    have e : wrap64 w.toInt = w.toInt := by have := X_bd true w; unfold X at this; rw [if_pos rfl] at this; unfold wrap64; omega
    rw [e]; rfl
  | false => rw [if_neg (by decide), wrap_u64]; rfl
def hi (x y : Int) : Int := x * y % 18446744073709551616 / 4294967296 % 4294967296
theorem high_eq (a b : BitVec 32) (s t : Bool) : word_High.f (U a) (U b) s t = some (hi (X s a) (X t b)) := by
  unfold word_High.f hi
  simp only [wide_eq, Option.bind_some, wrap_u64, ← Int.mul_emod]
theorem wrap64_mod (x : Int) : wrap64 x % 18446744073709551616 = x % 18446744073709551616 := by unfold wrap64; omega
theorem refHigh_eq (a b : BitVec 32) (s t : Bool) : corralref1_High.f 60 (U a) (U b) s t = some (hi (X s a) (X t b)) := by
  have ha := a.isLt
  have hb := b.isLt
  have ea : wrap64 (U a) = U a := by unfold wrap64 U; omega
  have eb : wrap64 (U b) = U b := by unfold wrap64 U; omega
  have ea2 : wrap64 (U a - 4294967296) = U a - 4294967296 := by unfold wrap64 U; omega
  have eb2 : wrap64 (U b - 4294967296) = U b - 4294967296 := by unfold wrap64 U; omega
  have xa : a.toInt = if U a ≥ 2147483648 then U a - 4294967296 else U a := by
    unfold U; rw [BitVec.toInt_eq_toNat_cond]; split <;> split <;> omega
  have xb : b.toInt = if U b ≥ 2147483648 then U b - 4294967296 else U b := by
    unfold U; rw [BitVec.toInt_eq_toNat_cond]; split <;> split <;> omega
  unfold corralref1_High.f
  simp only [corralref1_High.j0, corralref1_High.j1, corralref1_High.j2, ea, eb, ea2, eb2, wrap_u64, wrap64_mod, ← Int.mul_emod]
  unfold X hi
  rw [xa, xb]
  by_cases ca : U a ≥ 2147483648 <;> by_cases cb : U b ≥ 2147483648 <;> cases s <;> cases t <;> simp [ca, cb]
theorem div_eq (a b : Int) (s : Bool) : word_Div.f 60 a b s = corralref1_Div.f a b s := by
  unfold word_Div.f corralref1_Div.f
  simp only [word_Div.j0]
  by_cases h : b = 0
  · rw [if_pos h, if_pos h]
  rw [if_neg h, if_neg h]
  cases s with
  | true => by_cases c : b = 4294967295 <;> simp [c, h]
  | false => simp [h]
theorem rem_eq (a b : Int) (s : Bool) : word_Rem.f 60 a b s = corralref1_Rem.f a b s := by
  unfold word_Rem.f corralref1_Rem.f
  simp only [word_Rem.j0]
  by_cases h : b = 0
  · rw [if_pos h, if_pos h]
  rw [if_neg h, if_neg h]
  cases s with
  | true => by_cases c : b = 4294967295 <;> simp [c, h]
  | false => simp [h]
theorem w32_ne (b : BitVec 32) (h : ¬ U b = 0) : ¬ wrap32 (U b) = 0 := by
  have := b.isLt
  unfold wrap32 U at *; omega
theorem div_some (a b : BitVec 32) (s : Bool) : ∃ v, corralref1_Div.f (U a) (U b) s = some v := by
  unfold corralref1_Div.f
  by_cases h : U b = 0
  · rw [if_pos h]; exact ⟨_, rfl⟩
  rw [if_neg h]
  split
  · split
    · exact ⟨_, rfl⟩
    · rw [if_neg (w32_ne b h)]; exact ⟨_, rfl⟩
  · exact ⟨_, rfl⟩
theorem rem_some (a b : BitVec 32) (s : Bool) : ∃ v, corralref1_Rem.f (U a) (U b) s = some v := by
  unfold corralref1_Rem.f
  by_cases h : U b = 0
  · rw [if_pos h]; exact ⟨_, rfl⟩
  rw [if_neg h]
  split
  · split
    · exact ⟨_, rfl⟩
    · rw [if_neg (w32_ne b h)]; exact ⟨_, rfl⟩
  · exact ⟨_, rfl⟩
theorem less_same (a b : Int) (s : Bool) : word_Less.f a b s = corralref1_Less.f a b s := rfl
theorem less_some (a b : Int) (s : Bool) : ∃ v, corralref1_Less.f a b s = some v := by
  unfold corralref1_Less.f; split <;> exact ⟨_, rfl⟩
theorem right_same (a n : Int) (s : Bool) : word_Right.f a n s = corralref1_Right.f a n s := by
  have e : IntKind.u64.wrap (n % 32) = n % 32 := by rw [wrap_u64]; omega
  unfold word_Right.f corralref1_Right.f
  rw [and31, e]
theorem right_some (w : BitVec 32) (n : Int) (s : Bool) : ∃ v, corralref1_Right.f (U w) n s = some v := by
  rw [← right_same]
  cases s with
  | true => exact ⟨_, sar_eq w n⟩
  | false => exact ⟨_, right_eq w n⟩
theorem main (a b : BitVec 32) (lo n : Int) (h9 : n ≤ 9223372036854775807) (x y : Bool) : corrallaw1_WordSays.f 60 (U a) (U b) lo n x y = some true := by
  have e : IntKind.u64.wrap (n % 32) = n % 32 := by rw [wrap_u64]; omega
  have e0 : 0 ≤ n % 32 := by omega
  obtain ⟨d, hd⟩ := div_some a b x
  obtain ⟨r, hr⟩ := rem_some a b x
  obtain ⟨l, hl⟩ := less_some (U a) (U b) x
  obtain ⟨g, hg⟩ := right_some a n x
  unfold corrallaw1_WordSays.f
  rw [first_true]
  simp only [Option.bind_some, if_true, sign_eq, refSign_eq, bits_eq, refBits_eq a lo n h9, high_eq, refHigh_eq, div_eq, hd, rem_eq, hr, less_same, hl, right_same, hg, left_eq, and31, e, e0, shl_U, ofInt_U, beq_self_eq_true]
end WordSaysP
theorem WordSays : corrallaw1_WordSays.Pure := by
  intro a0 a1 a2 a3 a4 a5 h0 h1 _ h3
  obtain ⟨a, rfl⟩ := wf_u32 h0
  obtain ⟨b, rfl⟩ := wf_u32 h1
  exact ⟨60, WordSaysP.main a b a2 a3 (wf_i64 h3).2 a4 a5⟩

end Go.Proofs.Ythpaieglgjjbiaa.Pure
