/- There and back: the status' one bit is told both ways. -/
import Derived.Test.YtcaohimipkoapaaQCsrReturnsx3
import Derived.Test.YtcaohimipkoapaaBv
set_option linter.unusedSimpArgs false
set_option linter.unusedVariables false
namespace Go.Proofs.Ytcaohimipkoapaa.Pure
open Go.RowKit Go.Proofs.Ytcaohimipkoapaa.QCsrReturns Go.Proofs.YtcaohimipkoapaaW.PrintWords Go.Proofs.YtcaohimipkoapaaW.PrintLast Go.Proofs.YtcaohimipkoapaaW.PrintMore Go.Proofs.Ytcaohimipkoapaa.Bv
namespace CsrReturnsP
theorem bits11 (x : Int) : word_Bits.f x 11 2 = some (Go.bits .and .u32 (shr .u32 x 11) 3) := by
  unfold word_Bits.f
  rw [if_neg (by decide), if_neg (by decide), if_neg (by decide), if_pos (by decide), show word_mask.f 2 = some 3 by decide, Option.bind_some]
def keepI (x : Int) : Int := if Go.bits .and .u32 (shr .u32 x 11) 3 = 3 then Go.bits .or .u32 (Go.bits .and .u32 x 136) 6144 else Go.bits .and .u32 x 136
def keepB (v : BitVec 32) : BitVec 32 := if (v >>> 11) &&& 3#32 = 3#32 then (v &&& 136#32) ||| 6144#32 else v &&& 136#32
theorem keep_U (v : BitVec 32) : keepI (U v) = U (keepB v) := by
  unfold keepI keepB
  rw [shr_U, and_U, ofInt_U, and_U, ofInt_U, or_U, ofInt_U, show Int.toNat 11 = 11 from rfl]
  have e : ∀ w : BitVec 32, (U (w &&& BitVec.ofInt 32 3) = 3) ↔ (w &&& 3#32 = 3#32) := fun w => by
    rw [show (3 : Int) = U 3#32 by decide, U_inj, ofInt_U]
  by_cases c : (v >>> 11) &&& 3#32 = 3#32
  · rw [if_pos ((e _).2 c), if_pos c]; rfl
  · rw [if_neg (fun h => c ((e _).1 h)), if_neg c]; rfl
theorem keep_bits (v : BitVec 32) : (keepB v >>> 11) &&& 3#32 = if (v >>> 11) &&& 3#32 = 3#32 then 3#32 else 0#32 := by
  unfold keepB
  by_cases c : (v >>> 11) &&& 3#32 = 3#32
  · rw [if_pos c, if_pos c, BitVec.ushiftRight_or_distrib, BitVec.ushiftRight_and_distrib, show 136#32 >>> 11 = 0#32 by decide, BitVec.and_zero, BitVec.zero_or]; decide
  · rw [if_neg c, if_neg c, BitVec.ushiftRight_and_distrib, show 136#32 >>> 11 = 0#32 by decide, BitVec.and_zero, BitVec.zero_and]
theorem keep_keep (v : BitVec 32) : keepB (keepB v) = keepB v := by
  have h := keep_bits v
  by_cases c : (v >>> 11) &&& 3#32 = 3#32
  · rw [if_pos c] at h
    have e : keepB v = (v &&& 136#32) ||| 6144#32 := by unfold keepB; rw [if_pos c]
    rw [(show keepB (keepB v) = if (keepB v >>> 11) &&& 3#32 = 3#32 then (keepB v &&& 136#32) ||| 6144#32 else keepB v &&& 136#32 from rfl), if_pos h, e]
    apply BitVec.eq_of_getLsbD_eq; intro i hi
    simp only [BitVec.getLsbD_or, BitVec.getLsbD_and]
    cases v.getLsbD i <;> cases (136#32).getLsbD i <;> cases (6144#32).getLsbD i <;> rfl
  · rw [if_neg c] at h
    have e : keepB v = v &&& 136#32 := by unfold keepB; rw [if_neg c]
    rw [(show keepB (keepB v) = if (keepB v >>> 11) &&& 3#32 = 3#32 then (keepB v &&& 136#32) ||| 6144#32 else keepB v &&& 136#32 from rfl), if_neg (by rw [h]; decide), e, BitVec.and_assoc, BitVec.and_self]
theorem keep_sub (v : BitVec 32) : keepB v &&& ~~~ v = 0#32 := by
  unfold keepB
  by_cases c : (v >>> 11) &&& 3#32 = 3#32
  · rw [if_pos c]
    have h0 : v.getLsbD 11 = true := by have := congrArg (·.getLsbD 0) c; simpa using this
    have h1 : v.getLsbD 12 = true := by have := congrArg (·.getLsbD 1) c; simpa using this
    have e : 6144#32 = BitVec.twoPow 32 11 ||| BitVec.twoPow 32 12 := by decide
    rw [e]
    apply BitVec.eq_of_getLsbD_eq; intro i hi
    simp only [BitVec.getLsbD_or, BitVec.getLsbD_and, BitVec.getLsbD_not, BitVec.getLsbD_twoPow, BitVec.getLsbD_zero, hi, decide_true, Bool.true_and]
    by_cases c1 : 11 = i
    · subst c1; rw [h0]; simp
    by_cases c2 : 12 = i
    · subst c2; rw [h1]; simp
    cases v.getLsbD i <;> simp [c1, c2]
  · rw [if_neg c]
    apply BitVec.eq_of_getLsbD_eq; intro i hi
    simp only [BitVec.getLsbD_and, BitVec.getLsbD_not, BitVec.getLsbD_zero, hi, decide_true, Bool.true_and]
    cases v.getLsbD i <;> simp
theorem and_idem (x m : Int) : Go.bits .and .u32 (Go.bits .and .u32 x m) m = Go.bits .and .u32 x m := by
  rw [and_U x m, and_U, ofInt_U, BitVec.and_assoc, BitVec.and_self]
theorem and_sub (x m : Int) : Go.bits .andNot .u32 (Go.bits .and .u32 x m) x = 0 := by
  rw [and_U, andNot_U, ofInt_U]
  have e : ∀ a b : BitVec 32, a &&& b &&& ~~~ a = 0#32 := fun a b => by
    apply BitVec.eq_of_getLsbD_eq; intro i hi
    simp only [BitVec.getLsbD_and, BitVec.getLsbD_not, BitVec.getLsbD_zero, hi, decide_true, Bool.true_and]
    cases a.getLsbD i <;> simp
  rw [e]; rfl
theorem self_sub (x : Int) : Go.bits .andNot .u32 x x = 0 := by
  rw [andNot_U]
  have e : ∀ a : BitVec 32, a &&& ~~~ a = 0#32 := fun a => by
    apply BitVec.eq_of_getLsbD_eq; intro i hi
    simp only [BitVec.getLsbD_and, BitVec.getLsbD_not, BitVec.getLsbD_zero, hi, decide_true, Bool.true_and]
    cases a.getLsbD i <;> simp
  rw [e]; rfl
theorem zero_sub_ (x : Int) : Go.bits .andNot .u32 0 x = 0 := by
  rw [andNot_U]
  have e : ∀ a : BitVec 32, 0#32 &&& ~~~ a = 0#32 := fun a => BitVec.zero_and
  rw [show BitVec.ofInt 32 0 = 0#32 from rfl, e]; rfl
theorem kI_idem (v : BitVec 32) : keepI (keepI (U v)) = keepI (U v) := by rw [keep_U, keep_U, keep_keep]
theorem kI_sub (v : BitVec 32) : Go.bits .andNot .u32 (keepI (U v)) (U v) = 0 := by
  rw [keep_U, andNot_U, ofInt_U, ofInt_U, keep_sub]; rfl
theorem get384 {s1 s2 s3 s4 s5 s6 s7 s8 s9 s10 : Int} : csr_File_Get.f false s1 s2 s3 s4 s5 s6 s7 s8 s9 s10 384 = some (s1, true, false, s1, s2, s3, s4, s5, s6, s7, s8, s9, s10) := by simp [csr_File_Get.f]
theorem set384 {s1 s2 s3 s4 s5 s6 s7 s8 s9 s10 : Int} (x : Int) : csr_File_Set.f false s1 s2 s3 s4 s5 s6 s7 s8 s9 s10 384 x = some (true, false, Go.bits .and .u32 x 2151677951, s2, s3, s4, s5, s6, s7, s8, s9, s10) := by simp [csr_File_Set.f]
theorem get768 {s1 s2 s3 s4 s5 s6 s7 s8 s9 s10 : Int} : csr_File_Get.f false s1 s2 s3 s4 s5 s6 s7 s8 s9 s10 768 = some (s2, true, false, s1, s2, s3, s4, s5, s6, s7, s8, s9, s10) := by simp [csr_File_Get.f]
theorem set768 {s1 s2 s3 s4 s5 s6 s7 s8 s9 s10 : Int} (x : Int) : csr_File_Set.f false s1 s2 s3 s4 s5 s6 s7 s8 s9 s10 768 x = some (true, false, s1, keepI x, s3, s4, s5, s6, s7, s8, s9, s10) := by
  unfold csr_File_Set.f
  rw [if_neg (by decide), if_neg (by decide), if_pos rfl, bits11, Option.bind_some]
  unfold keepI
  by_cases c : Go.bits .and .u32 (shr .u32 x 11) 3 = 3
  · rw [if_pos c, if_pos c]
  · rw [if_neg c, if_neg c]
theorem get772 {s1 s2 s3 s4 s5 s6 s7 s8 s9 s10 : Int} : csr_File_Get.f false s1 s2 s3 s4 s5 s6 s7 s8 s9 s10 772 = some (s3, true, false, s1, s2, s3, s4, s5, s6, s7, s8, s9, s10) := by simp [csr_File_Get.f]
theorem set772 {s1 s2 s3 s4 s5 s6 s7 s8 s9 s10 : Int} (x : Int) : csr_File_Set.f false s1 s2 s3 s4 s5 s6 s7 s8 s9 s10 772 x = some (true, false, s1, s2, Go.bits .and .u32 x 8, s4, s5, s6, s7, s8, s9, s10) := by simp [csr_File_Set.f]
theorem get773 {s1 s2 s3 s4 s5 s6 s7 s8 s9 s10 : Int} : csr_File_Get.f false s1 s2 s3 s4 s5 s6 s7 s8 s9 s10 773 = some (s4, true, false, s1, s2, s3, s4, s5, s6, s7, s8, s9, s10) := by simp [csr_File_Get.f]
theorem set773 {s1 s2 s3 s4 s5 s6 s7 s8 s9 s10 : Int} (x : Int) : csr_File_Set.f false s1 s2 s3 s4 s5 s6 s7 s8 s9 s10 773 x = some (true, false, s1, s2, s3, Go.bits .and .u32 x 4294967292, s5, s6, s7, s8, s9, s10) := by simp [csr_File_Set.f]
theorem get832 {s1 s2 s3 s4 s5 s6 s7 s8 s9 s10 : Int} : csr_File_Get.f false s1 s2 s3 s4 s5 s6 s7 s8 s9 s10 832 = some (s5, true, false, s1, s2, s3, s4, s5, s6, s7, s8, s9, s10) := by simp [csr_File_Get.f]
theorem set832 {s1 s2 s3 s4 s5 s6 s7 s8 s9 s10 : Int} (x : Int) : csr_File_Set.f false s1 s2 s3 s4 s5 s6 s7 s8 s9 s10 832 x = some (true, false, s1, s2, s3, s4, x, s6, s7, s8, s9, s10) := by simp [csr_File_Set.f]
theorem get833 {s1 s2 s3 s4 s5 s6 s7 s8 s9 s10 : Int} : csr_File_Get.f false s1 s2 s3 s4 s5 s6 s7 s8 s9 s10 833 = some (s6, true, false, s1, s2, s3, s4, s5, s6, s7, s8, s9, s10) := by simp [csr_File_Get.f]
theorem set833 {s1 s2 s3 s4 s5 s6 s7 s8 s9 s10 : Int} (x : Int) : csr_File_Set.f false s1 s2 s3 s4 s5 s6 s7 s8 s9 s10 833 x = some (true, false, s1, s2, s3, s4, s5, Go.bits .and .u32 x 4294967292, s7, s8, s9, s10) := by simp [csr_File_Set.f]
theorem get834 {s1 s2 s3 s4 s5 s6 s7 s8 s9 s10 : Int} : csr_File_Get.f false s1 s2 s3 s4 s5 s6 s7 s8 s9 s10 834 = some (s7, true, false, s1, s2, s3, s4, s5, s6, s7, s8, s9, s10) := by simp [csr_File_Get.f]
theorem set834 {s1 s2 s3 s4 s5 s6 s7 s8 s9 s10 : Int} (x : Int) : csr_File_Set.f false s1 s2 s3 s4 s5 s6 s7 s8 s9 s10 834 x = some (true, false, s1, s2, s3, s4, s5, s6, x, s8, s9, s10) := by simp [csr_File_Set.f]
theorem get835 {s1 s2 s3 s4 s5 s6 s7 s8 s9 s10 : Int} : csr_File_Get.f false s1 s2 s3 s4 s5 s6 s7 s8 s9 s10 835 = some (s8, true, false, s1, s2, s3, s4, s5, s6, s7, s8, s9, s10) := by simp [csr_File_Get.f]
theorem set835 {s1 s2 s3 s4 s5 s6 s7 s8 s9 s10 : Int} (x : Int) : csr_File_Set.f false s1 s2 s3 s4 s5 s6 s7 s8 s9 s10 835 x = some (true, false, s1, s2, s3, s4, s5, s6, s7, x, s9, s10) := by simp [csr_File_Set.f]
theorem get836 {s1 s2 s3 s4 s5 s6 s7 s8 s9 s10 : Int} : csr_File_Get.f false s1 s2 s3 s4 s5 s6 s7 s8 s9 s10 836 = some (s9, true, false, s1, s2, s3, s4, s5, s6, s7, s8, s9, s10) := by simp [csr_File_Get.f]
theorem set836 {s1 s2 s3 s4 s5 s6 s7 s8 s9 s10 : Int} (x : Int) : csr_File_Set.f false s1 s2 s3 s4 s5 s6 s7 s8 s9 s10 836 x = some (true, false, s1, s2, s3, s4, s5, s6, s7, s8, s9, s10) := by simp [csr_File_Set.f]
theorem get3860 {s1 s2 s3 s4 s5 s6 s7 s8 s9 s10 : Int} : csr_File_Get.f false s1 s2 s3 s4 s5 s6 s7 s8 s9 s10 3860 = some (s10, true, false, s1, s2, s3, s4, s5, s6, s7, s8, s9, s10) := by simp [csr_File_Get.f]
theorem set3860 {s1 s2 s3 s4 s5 s6 s7 s8 s9 s10 : Int} (x : Int) : csr_File_Set.f false s1 s2 s3 s4 s5 s6 s7 s8 s9 s10 3860 x = some (false, false, s1, s2, s3, s4, s5, s6, s7, s8, s9, s10) := by simp [csr_File_Set.f]
theorem get_none {s1 s2 s3 s4 s5 s6 s7 s8 s9 s10 : Int} (n : Int) (h384 : n ≠ 384) (h768 : n ≠ 768) (h772 : n ≠ 772) (h773 : n ≠ 773) (h832 : n ≠ 832) (h833 : n ≠ 833) (h834 : n ≠ 834) (h835 : n ≠ 835) (h836 : n ≠ 836) (h3860 : n ≠ 3860) : csr_File_Get.f false s1 s2 s3 s4 s5 s6 s7 s8 s9 s10 n = some (0, false, false, s1, s2, s3, s4, s5, s6, s7, s8, s9, s10) := by simp [csr_File_Get.f, h384, h768, h772, h773, h832, h833, h834, h835, h836, h3860]
theorem set_none {s1 s2 s3 s4 s5 s6 s7 s8 s9 s10 : Int} (n x : Int) (h384 : n ≠ 384) (h768 : n ≠ 768) (h772 : n ≠ 772) (h773 : n ≠ 773) (h832 : n ≠ 832) (h833 : n ≠ 833) (h834 : n ≠ 834) (h835 : n ≠ 835) (h836 : n ≠ 836) (h3860 : n ≠ 3860) : csr_File_Set.f false s1 s2 s3 s4 s5 s6 s7 s8 s9 s10 n x = some (false, false, s1, s2, s3, s4, s5, s6, s7, s8, s9, s10) := by simp [csr_File_Set.f, h384, h768, h772, h773, h832, h833, h834, h835, h836, h3860]
theorem get_user {s1 s2 s3 s4 s5 s6 s7 s8 s9 s10 : Int} (n : Int) : csr_File_Get.f true s1 s2 s3 s4 s5 s6 s7 s8 s9 s10 n = some (0, false, true, s1, s2, s3, s4, s5, s6, s7, s8, s9, s10) := by simp [csr_File_Get.f]
theorem set_user {s1 s2 s3 s4 s5 s6 s7 s8 s9 s10 : Int} (n x : Int) : csr_File_Set.f true s1 s2 s3 s4 s5 s6 s7 s8 s9 s10 n x = some (false, true, s1, s2, s3, s4, s5, s6, s7, s8, s9, s10) := by simp [csr_File_Set.f]
theorem mode_m {s1 s2 s3 s4 s5 s6 s7 s8 s9 s10 : Int} : csr_File_Mode.f false s1 s2 s3 s4 s5 s6 s7 s8 s9 s10 = some (3, false, s1, s2, s3, s4, s5, s6, s7, s8, s9, s10) := by simp [csr_File_Mode.f]
theorem mode_u {s1 s2 s3 s4 s5 s6 s7 s8 s9 s10 : Int} : csr_File_Mode.f true s1 s2 s3 s4 s5 s6 s7 s8 s9 s10 = some (0, true, s1, s2, s3, s4, s5, s6, s7, s8, s9, s10) := by simp [csr_File_Mode.f]
theorem first_true : corrallaw6_first.f = some true := by decide +kernel

theorem ret {u : Bool} {s1 s2 s3 s4 s5 s6 s7 s8 s9 s10 : Int} : csr_File_Return.f u s1 s2 s3 s4 s5 s6 s7 s8 s9 s10 = some (s6, (Go.bits .and .u32 (shr .u32 s2 11) 3 != 3), s1, Go.bits .or .u32 ((Go.bits .and .u32 s2 128) / 16) 128, s3, s4, s5, s6, s7, s8, s9, s10) := by
  unfold csr_File_Return.f
  rw [bits11, Option.bind_some]

theorem and_not3 (x : Int) : Go.bits .and .u32 x 4294967292 = Go.bits .andNot .u32 x 3 := by
  rw [and_U, andNot_U]; rfl
theorem trap_m {s1 s2 s3 s4 s5 s6 s7 s8 s9 s10 : Int} (c t p : Int) : csr_File_Trap.f false s1 s2 s3 s4 s5 s6 s7 s8 s9 s10 c t p = some (s4, false, s1, Go.bits .or .u32 (((Go.bits .and .u32 s2 8) * 16) % 4294967296) 6144, s3, s4, s5, Go.bits .and .u32 p 4294967292, c, t, s9, s10) := by
  simp [csr_File_Trap.f, mode_m]
theorem trap_u {s1 s2 s3 s4 s5 s6 s7 s8 s9 s10 : Int} (c t p : Int) : csr_File_Trap.f true s1 s2 s3 s4 s5 s6 s7 s8 s9 s10 c t p = some (s4, false, s1, Go.bits .or .u32 (((Go.bits .and .u32 s2 8) * 16) % 4294967296) 0, s3, s4, s5, Go.bits .and .u32 p 4294967292, c, t, s9, s10) := by
  simp [csr_File_Trap.f, mode_u]

theorem sh136 (x : Int) : Go.bits .and .u32 (shr .u32 (Go.bits .and .u32 x 136) 11) 3 = 0 := by
  rw [and_U x, shr_U, and_U, ofInt_U]
  have e : ∀ v : BitVec 32, (v &&& BitVec.ofInt 32 136) >>> Int.toNat 11 &&& BitVec.ofInt 32 3 = 0#32 := fun v => by
    rw [show Int.toNat 11 = 11 from rfl, BitVec.ushiftRight_and_distrib, show BitVec.ofInt 32 136 >>> 11 = 0#32 by decide, BitVec.and_zero, BitVec.zero_and]
  rw [e]; rfl
theorem keep_clear (x : Int) : keepI (Go.bits .andNot .u32 x 6144) = Go.bits .and .u32 (Go.bits .andNot .u32 x 6144) 136 := by
  unfold keepI
  have e : Go.bits .and .u32 (shr .u32 (Go.bits .andNot .u32 x 6144) 11) 3 = 0 := by
    rw [andNot_U x, shr_U, and_U, ofInt_U]
    have e : ∀ v : BitVec 32, (v &&& ~~~BitVec.ofInt 32 6144) >>> Int.toNat 11 &&& BitVec.ofInt 32 3 = 0#32 := fun v => by
      rw [show Int.toNat 11 = 11 from rfl, BitVec.ushiftRight_and_distrib, BitVec.and_assoc, show (~~~BitVec.ofInt 32 6144) >>> 11 &&& BitVec.ofInt 32 3 = 0#32 by decide, BitVec.and_zero]
    rw [e]; rfl
  rw [e, if_neg (by decide)]
theorem bit8 (x : Int) : Go.bits .and .u32 x 8 = 0 ∨ Go.bits .and .u32 x 8 = 8 := by
  rw [and_U]
  generalize BitVec.ofInt 32 x = v
  have e : BitVec.ofInt 32 8 = BitVec.twoPow 32 3 := by decide
  rw [e]
  by_cases c : v.getLsbD 3 = true
  · right
    have : v &&& BitVec.twoPow 32 3 = BitVec.twoPow 32 3 := by
      apply BitVec.eq_of_getLsbD_eq; intro i hi
      simp only [BitVec.getLsbD_and, BitVec.getLsbD_twoPow]
      by_cases c1 : 3 = i
      · subst c1; simp [c]
      · simp [c1]
    rw [this]; decide
  · left
    exact (and_bit v 3 (by decide)).2 (by simpa using c)
theorem last (k : Nat) (u : Bool) (c t p s2 s4 s5 s6 s7 s8 s9 s10 : Int) :
    corrallaw6_CsrReturns.j0 (k + 2) c t p u true u 0 s2 8 s4 s5 s6 s7 s8 s9 s10 = some true := by
  cases u
  · simp only [corrallaw6_CsrReturns.j0, trap_m, mode_m, Option.bind_some, get834, get835, if_true, ret, ← and_not3]
    rcases bit8 s2 with h | h
    · rw [h]
      simp only [show Go.bits .or .u32 (0 * 16 % 4294967296) 6144 = 6144 by decide, show (Go.bits .and .u32 (shr .u32 6144 11) 3 != 3) = false by decide, show Go.bits .or .u32 (Go.bits .and .u32 6144 128 / 16) 128 = 128 by decide, mode_m, Option.bind_some, bne_self_eq_false, corrallaw6_CsrReturns.j1, Bool.false_eq_true, if_false, csr_File_Bell.f, csr_File_Pending.f, if_true, h, show ¬ (Go.bits .and .u32 (Go.bits .and .u32 8 8) 8 = 0) by decide, show Go.bits .and .u32 128 8 = 0 by decide]
      simp [corrallaw6_map2.f]
    · rw [h]
      simp only [show Go.bits .or .u32 (8 * 16 % 4294967296) 6144 = 6272 by decide, show (Go.bits .and .u32 (shr .u32 6272 11) 3 != 3) = false by decide, show Go.bits .or .u32 (Go.bits .and .u32 6272 128 / 16) 128 = 136 by decide, mode_m, Option.bind_some, bne_self_eq_false, corrallaw6_CsrReturns.j1, Bool.false_eq_true, if_false, csr_File_Bell.f, csr_File_Pending.f, if_true, h, show ¬ (Go.bits .and .u32 (Go.bits .and .u32 8 8) 8 = 0) by decide, show Go.bits .and .u32 136 8 = 8 by decide, show ¬ ((8 : Int) = 0) by decide]
      simp [corrallaw6_map2.f]
  · simp only [corrallaw6_CsrReturns.j0, trap_u, mode_u, mode_m, Option.bind_some, get834, get835, if_true, ret, ← and_not3]
    rcases bit8 s2 with h | h
    · rw [h]
      simp only [show Go.bits .or .u32 (0 * 16 % 4294967296) 0 = 0 by decide, show (Go.bits .and .u32 (shr .u32 0 11) 3 != 3) = true by decide, show Go.bits .or .u32 (Go.bits .and .u32 0 128 / 16) 128 = 128 by decide, mode_u, Option.bind_some, bne_self_eq_false, corrallaw6_CsrReturns.j1, Bool.false_eq_true, if_false, csr_File_Bell.f, csr_File_Pending.f, if_true, h, show ¬ (Go.bits .and .u32 (Go.bits .and .u32 8 8) 8 = 0) by decide]
      simp [corrallaw6_map2.f]
    · rw [h]
      simp only [show Go.bits .or .u32 (8 * 16 % 4294967296) 0 = 128 by decide, show (Go.bits .and .u32 (shr .u32 128 11) 3 != 3) = true by decide, show Go.bits .or .u32 (Go.bits .and .u32 128 128 / 16) 128 = 136 by decide, mode_u, Option.bind_some, bne_self_eq_false, corrallaw6_CsrReturns.j1, Bool.false_eq_true, if_false, csr_File_Bell.f, csr_File_Pending.f, if_true, h, show ¬ (Go.bits .and .u32 (Go.bits .and .u32 8 8) 8 = 0) by decide]
      simp [corrallaw6_map2.f]
theorem main (s c t p : Int) (u : Bool) (k : Nat) : corrallaw6_CsrReturns.f (k + 2) s c t p u = some true := by
  unfold corrallaw6_CsrReturns.f
  rw [first_true, Option.bind_some, if_pos rfl]
  unfold csr_New.f
  simp only [Option.bind_some, set772, set768, keep_clear, show Go.bits .and .u32 8 8 = 8 by decide]
  cases u
  · simp only [Bool.false_eq_true, if_false]
    exact last k false c t p _ _ _ _ _ _ _ _
  · simp only [if_true, ret, sh136, show ((0 : Int) != 3) = true by decide, trap_u, Option.bind_some, set768, keep_clear]
    exact last k true c t p _ _ _ _ _ _ _ _
end CsrReturnsP
theorem CsrReturns : corrallaw6_CsrReturns.Pure := by
  intro a0 a1 a2 a3 a4 _ _ _ _
  exact ⟨100, CsrReturnsP.main a0 a1 a2 a3 a4 98⟩

end Go.Proofs.Ytcaohimipkoapaa.Pure
