/- Register by register: what is set is got as its mask says. -/
import Derived.Test.YtcaohimipkoapaaQCsrMasksx4
import Derived.Test.YtcaohimipkoapaaBv
set_option linter.unusedSimpArgs false
set_option linter.unusedVariables false
namespace Go.Proofs.Ytcaohimipkoapaa.Pure
open Go.RowKit Go.Proofs.Ytcaohimipkoapaa.QCsrMasks Go.Proofs.YtcaohimipkoapaaW.PrintWords Go.Proofs.YtcaohimipkoapaaW.PrintLast Go.Proofs.YtcaohimipkoapaaW.PrintMore Go.Proofs.Ytcaohimipkoapaa.Bv
namespace CsrMasksP
theorem bits11 (x : Int) : word_Bits.f x 11 2 = some (Go.bits .and .u32 (shr .u32 x 11) 3) := by
  unfold word_Bits.f
  rw [if_neg (by decide), if_neg (by decide), if_neg (by decide), if_pos (by decide), show word_mask.f 2 = some 3 by decide, Option.bind_some]
def keepI (x : Int) : Int := if Go.bits .and .u32 (shr .u32 x 11) 3 = 3 then Go.bits .or .u32 (Go.bits .and .u32 x 136) 6144 else Go.bits .and .u32 x 136
def keepB (v : BitVec 32) : BitVec 32 := if (v >>> 11) &&& 3#32 = 3#32 then (v &&& 136#32) ||| 6144#32 else v &&& 136#32
theorem keep_U (v : BitVec 32) : keepI (U v) = U (keepB v) := by
  unfold keepI keepB
  rw [shr_U, and_U, ofInt_U, and_U, ofInt_U, or_U, ofInt_U, show Int.toNat 11 = 11 from rfl]
  have e : ∀ w : BitVec 32, (U (w &&& BitVec.ofInt 32 3) = 3) ↔ (w &&& 3#32 = 3#32) := fun w => by
    rw [show (3 : Int) = U 3#32 by decide, U_inj, ofInt_U]
  by_cases c : (v >>> 11) &&& 3#32 = 3#32
  · rw [if_pos ((e _).2 c), if_pos c]; rfl
  · rw [if_neg (fun h => c ((e _).1 h)), if_neg c]; rfl
theorem keep_bits (v : BitVec 32) : (keepB v >>> 11) &&& 3#32 = if (v >>> 11) &&& 3#32 = 3#32 then 3#32 else 0#32 := by
  unfold keepB
  by_cases c : (v >>> 11) &&& 3#32 = 3#32
  · rw [if_pos c, if_pos c, BitVec.ushiftRight_or_distrib, BitVec.ushiftRight_and_distrib, show 136#32 >>> 11 = 0#32 by decide, BitVec.and_zero, BitVec.zero_or]; decide
  · rw [if_neg c, if_neg c, BitVec.ushiftRight_and_distrib, show 136#32 >>> 11 = 0#32 by decide, BitVec.and_zero, BitVec.zero_and]
theorem keep_keep (v : BitVec 32) : keepB (keepB v) = keepB v := by
  have h := keep_bits v
  by_cases c : (v >>> 11) &&& 3#32 = 3#32
  · rw [if_pos c] at h
    have e : keepB v = (v &&& 136#32) ||| 6144#32 := by unfold keepB; rw [if_pos c]
    rw [(show keepB (keepB v) = if (keepB v >>> 11) &&& 3#32 = 3#32 then (keepB v &&& 136#32) ||| 6144#32 else keepB v &&& 136#32 from rfl), if_pos h, e]
    apply BitVec.eq_of_getLsbD_eq; intro i hi
    simp only [BitVec.getLsbD_or, BitVec.getLsbD_and]
    cases v.getLsbD i <;> cases (136#32).getLsbD i <;> cases (6144#32).getLsbD i <;> rfl
  · rw [if_neg c] at h
    have e : keepB v = v &&& 136#32 := by unfold keepB; rw [if_neg c]
    rw [(show keepB (keepB v) = if (keepB v >>> 11) &&& 3#32 = 3#32 then (keepB v &&& 136#32) ||| 6144#32 else keepB v &&& 136#32 from rfl), if_neg (by rw [h]; decide), e, BitVec.and_assoc, BitVec.and_self]
theorem keep_sub (v : BitVec 32) : keepB v &&& ~~~ v = 0#32 := by
  unfold keepB
  by_cases c : (v >>> 11) &&& 3#32 = 3#32
  · rw [if_pos c]
    have h0 : v.getLsbD 11 = true := by have := congrArg (·.getLsbD 0) c; simpa using this
    have h1 : v.getLsbD 12 = true := by have := congrArg (·.getLsbD 1) c; simpa using this
    have e : 6144#32 = BitVec.twoPow 32 11 ||| BitVec.twoPow 32 12 := by decide
    rw [e]
    apply BitVec.eq_of_getLsbD_eq; intro i hi
    simp only [BitVec.getLsbD_or, BitVec.getLsbD_and, BitVec.getLsbD_not, BitVec.getLsbD_twoPow, BitVec.getLsbD_zero, hi, decide_true, Bool.true_and]
    by_cases c1 : 11 = i
    · subst c1; rw [h0]; simp
    by_cases c2 : 12 = i
    · subst c2; rw [h1]; simp
    cases v.getLsbD i <;> simp [c1, c2]
  · rw [if_neg c]
    apply BitVec.eq_of_getLsbD_eq; intro i hi
    simp only [BitVec.getLsbD_and, BitVec.getLsbD_not, BitVec.getLsbD_zero, hi, decide_true, Bool.true_and]
    cases v.getLsbD i <;> simp
theorem and_idem (x m : Int) : Go.bits .and .u32 (Go.bits .and .u32 x m) m = Go.bits .and .u32 x m := by
  rw [and_U x m, and_U, ofInt_U, BitVec.and_assoc, BitVec.and_self]
theorem and_sub (x m : Int) : Go.bits .andNot .u32 (Go.bits .and .u32 x m) x = 0 := by
  rw [and_U, andNot_U, ofInt_U]
  have e : ∀ a b : BitVec 32, a &&& b &&& ~~~ a = 0#32 := fun a b => by
    apply BitVec.eq_of_getLsbD_eq; intro i hi
    simp only [BitVec.getLsbD_and, BitVec.getLsbD_not, BitVec.getLsbD_zero, hi, decide_true, Bool.true_and]
    cases a.getLsbD i <;> simp
  rw [e]; rfl
theorem self_sub (x : Int) : Go.bits .andNot .u32 x x = 0 := by
  rw [andNot_U]
  have e : ∀ a : BitVec 32, a &&& ~~~ a = 0#32 := fun a => by
    apply BitVec.eq_of_getLsbD_eq; intro i hi
    simp only [BitVec.getLsbD_and, BitVec.getLsbD_not, BitVec.getLsbD_zero, hi, decide_true, Bool.true_and]
    cases a.getLsbD i <;> simp
  rw [e]; rfl
theorem zero_sub_ (x : Int) : Go.bits .andNot .u32 0 x = 0 := by
  rw [andNot_U]
  have e : ∀ a : BitVec 32, 0#32 &&& ~~~ a = 0#32 := fun a => BitVec.zero_and
  rw [show BitVec.ofInt 32 0 = 0#32 from rfl, e]; rfl
theorem kI_idem (v : BitVec 32) : keepI (keepI (U v)) = keepI (U v) := by rw [keep_U, keep_U, keep_keep]
theorem kI_sub (v : BitVec 32) : Go.bits .andNot .u32 (keepI (U v)) (U v) = 0 := by
  rw [keep_U, andNot_U, ofInt_U, ofInt_U, keep_sub]; rfl
theorem get384 {s1 s2 s3 s4 s5 s6 s7 s8 s9 s10 : Int} : csr_File_Get.f false s1 s2 s3 s4 s5 s6 s7 s8 s9 s10 384 = some (s1, true, false, s1, s2, s3, s4, s5, s6, s7, s8, s9, s10) := by simp [csr_File_Get.f]
theorem set384 {s1 s2 s3 s4 s5 s6 s7 s8 s9 s10 : Int} (x : Int) : csr_File_Set.f false s1 s2 s3 s4 s5 s6 s7 s8 s9 s10 384 x = some (true, false, Go.bits .and .u32 x 2151677951, s2, s3, s4, s5, s6, s7, s8, s9, s10) := by simp [csr_File_Set.f]
theorem get768 {s1 s2 s3 s4 s5 s6 s7 s8 s9 s10 : Int} : csr_File_Get.f false s1 s2 s3 s4 s5 s6 s7 s8 s9 s10 768 = some (s2, true, false, s1, s2, s3, s4, s5, s6, s7, s8, s9, s10) := by simp [csr_File_Get.f]
theorem set768 {s1 s2 s3 s4 s5 s6 s7 s8 s9 s10 : Int} (x : Int) : csr_File_Set.f false s1 s2 s3 s4 s5 s6 s7 s8 s9 s10 768 x = some (true, false, s1, keepI x, s3, s4, s5, s6, s7, s8, s9, s10) := by
  unfold csr_File_Set.f
  rw [if_neg (by decide), if_neg (by decide), if_pos rfl, bits11, Option.bind_some]
  unfold keepI
  by_cases c : Go.bits .and .u32 (shr .u32 x 11) 3 = 3
  · rw [if_pos c, if_pos c]
  · rw [if_neg c, if_neg c]
theorem get772 {s1 s2 s3 s4 s5 s6 s7 s8 s9 s10 : Int} : csr_File_Get.f false s1 s2 s3 s4 s5 s6 s7 s8 s9 s10 772 = some (s3, true, false, s1, s2, s3, s4, s5, s6, s7, s8, s9, s10) := by simp [csr_File_Get.f]
theorem set772 {s1 s2 s3 s4 s5 s6 s7 s8 s9 s10 : Int} (x : Int) : csr_File_Set.f false s1 s2 s3 s4 s5 s6 s7 s8 s9 s10 772 x = some (true, false, s1, s2, Go.bits .and .u32 x 8, s4, s5, s6, s7, s8, s9, s10) := by simp [csr_File_Set.f]
theorem get773 {s1 s2 s3 s4 s5 s6 s7 s8 s9 s10 : Int} : csr_File_Get.f false s1 s2 s3 s4 s5 s6 s7 s8 s9 s10 773 = some (s4, true, false, s1, s2, s3, s4, s5, s6, s7, s8, s9, s10) := by simp [csr_File_Get.f]
theorem set773 {s1 s2 s3 s4 s5 s6 s7 s8 s9 s10 : Int} (x : Int) : csr_File_Set.f false s1 s2 s3 s4 s5 s6 s7 s8 s9 s10 773 x = some (true, false, s1, s2, s3, Go.bits .and .u32 x 4294967292, s5, s6, s7, s8, s9, s10) := by simp [csr_File_Set.f]
theorem get832 {s1 s2 s3 s4 s5 s6 s7 s8 s9 s10 : Int} : csr_File_Get.f false s1 s2 s3 s4 s5 s6 s7 s8 s9 s10 832 = some (s5, true, false, s1, s2, s3, s4, s5, s6, s7, s8, s9, s10) := by simp [csr_File_Get.f]
theorem set832 {s1 s2 s3 s4 s5 s6 s7 s8 s9 s10 : Int} (x : Int) : csr_File_Set.f false s1 s2 s3 s4 s5 s6 s7 s8 s9 s10 832 x = some (true, false, s1, s2, s3, s4, x, s6, s7, s8, s9, s10) := by simp [csr_File_Set.f]
theorem get833 {s1 s2 s3 s4 s5 s6 s7 s8 s9 s10 : Int} : csr_File_Get.f false s1 s2 s3 s4 s5 s6 s7 s8 s9 s10 833 = some (s6, true, false, s1, s2, s3, s4, s5, s6, s7, s8, s9, s10) := by simp [csr_File_Get.f]
theorem set833 {s1 s2 s3 s4 s5 s6 s7 s8 s9 s10 : Int} (x : Int) : csr_File_Set.f false s1 s2 s3 s4 s5 s6 s7 s8 s9 s10 833 x = some (true, false, s1, s2, s3, s4, s5, Go.bits .and .u32 x 4294967292, s7, s8, s9, s10) := by simp [csr_File_Set.f]
theorem get834 {s1 s2 s3 s4 s5 s6 s7 s8 s9 s10 : Int} : csr_File_Get.f false s1 s2 s3 s4 s5 s6 s7 s8 s9 s10 834 = some (s7, true, false, s1, s2, s3, s4, s5, s6, s7, s8, s9, s10) := by simp [csr_File_Get.f]
theorem set834 {s1 s2 s3 s4 s5 s6 s7 s8 s9 s10 : Int} (x : Int) : csr_File_Set.f false s1 s2 s3 s4 s5 s6 s7 s8 s9 s10 834 x = some (true, false, s1, s2, s3, s4, s5, s6, x, s8, s9, s10) := by simp [csr_File_Set.f]
theorem get835 {s1 s2 s3 s4 s5 s6 s7 s8 s9 s10 : Int} : csr_File_Get.f false s1 s2 s3 s4 s5 s6 s7 s8 s9 s10 835 = some (s8, true, false, s1, s2, s3, s4, s5, s6, s7, s8, s9, s10) := by simp [csr_File_Get.f]
theorem set835 {s1 s2 s3 s4 s5 s6 s7 s8 s9 s10 : Int} (x : Int) : csr_File_Set.f false s1 s2 s3 s4 s5 s6 s7 s8 s9 s10 835 x = some (true, false, s1, s2, s3, s4, s5, s6, s7, x, s9, s10) := by simp [csr_File_Set.f]
theorem get836 {s1 s2 s3 s4 s5 s6 s7 s8 s9 s10 : Int} : csr_File_Get.f false s1 s2 s3 s4 s5 s6 s7 s8 s9 s10 836 = some (s9, true, false, s1, s2, s3, s4, s5, s6, s7, s8, s9, s10) := by simp [csr_File_Get.f]
theorem set836 {s1 s2 s3 s4 s5 s6 s7 s8 s9 s10 : Int} (x : Int) : csr_File_Set.f false s1 s2 s3 s4 s5 s6 s7 s8 s9 s10 836 x = some (true, false, s1, s2, s3, s4, s5, s6, s7, s8, s9, s10) := by simp [csr_File_Set.f]
theorem get3860 {s1 s2 s3 s4 s5 s6 s7 s8 s9 s10 : Int} : csr_File_Get.f false s1 s2 s3 s4 s5 s6 s7 s8 s9 s10 3860 = some (s10, true, false, s1, s2, s3, s4, s5, s6, s7, s8, s9, s10) := by simp [csr_File_Get.f]
theorem set3860 {s1 s2 s3 s4 s5 s6 s7 s8 s9 s10 : Int} (x : Int) : csr_File_Set.f false s1 s2 s3 s4 s5 s6 s7 s8 s9 s10 3860 x = some (false, false, s1, s2, s3, s4, s5, s6, s7, s8, s9, s10) := by simp [csr_File_Set.f]
theorem get_none {s1 s2 s3 s4 s5 s6 s7 s8 s9 s10 : Int} (n : Int) (h384 : n ≠ 384) (h768 : n ≠ 768) (h772 : n ≠ 772) (h773 : n ≠ 773) (h832 : n ≠ 832) (h833 : n ≠ 833) (h834 : n ≠ 834) (h835 : n ≠ 835) (h836 : n ≠ 836) (h3860 : n ≠ 3860) : csr_File_Get.f false s1 s2 s3 s4 s5 s6 s7 s8 s9 s10 n = some (0, false, false, s1, s2, s3, s4, s5, s6, s7, s8, s9, s10) := by simp [csr_File_Get.f, h384, h768, h772, h773, h832, h833, h834, h835, h836, h3860]
theorem set_none {s1 s2 s3 s4 s5 s6 s7 s8 s9 s10 : Int} (n x : Int) (h384 : n ≠ 384) (h768 : n ≠ 768) (h772 : n ≠ 772) (h773 : n ≠ 773) (h832 : n ≠ 832) (h833 : n ≠ 833) (h834 : n ≠ 834) (h835 : n ≠ 835) (h836 : n ≠ 836) (h3860 : n ≠ 3860) : csr_File_Set.f false s1 s2 s3 s4 s5 s6 s7 s8 s9 s10 n x = some (false, false, s1, s2, s3, s4, s5, s6, s7, s8, s9, s10) := by simp [csr_File_Set.f, h384, h768, h772, h773, h832, h833, h834, h835, h836, h3860]
theorem get_user {s1 s2 s3 s4 s5 s6 s7 s8 s9 s10 : Int} (n : Int) : csr_File_Get.f true s1 s2 s3 s4 s5 s6 s7 s8 s9 s10 n = some (0, false, true, s1, s2, s3, s4, s5, s6, s7, s8, s9, s10) := by simp [csr_File_Get.f]
theorem set_user {s1 s2 s3 s4 s5 s6 s7 s8 s9 s10 : Int} (n x : Int) : csr_File_Set.f true s1 s2 s3 s4 s5 s6 s7 s8 s9 s10 n x = some (false, true, s1, s2, s3, s4, s5, s6, s7, s8, s9, s10) := by simp [csr_File_Set.f]
theorem mode_m {s1 s2 s3 s4 s5 s6 s7 s8 s9 s10 : Int} : csr_File_Mode.f false s1 s2 s3 s4 s5 s6 s7 s8 s9 s10 = some (3, false, s1, s2, s3, s4, s5, s6, s7, s8, s9, s10) := by simp [csr_File_Mode.f]
theorem mode_u {s1 s2 s3 s4 s5 s6 s7 s8 s9 s10 : Int} : csr_File_Mode.f true s1 s2 s3 s4 s5 s6 s7 s8 s9 s10 = some (0, true, s1, s2, s3, s4, s5, s6, s7, s8, s9, s10) := by simp [csr_File_Mode.f]
theorem first_true : corrallaw6_first.f = some true := by decide +kernel

def NM : List Int := [384, 768, 772, 773, 832, 833, 834, 835, 836]
def MK : List Int := [2151677951, 136, 8, 4294967292, 4294967295, 4294967292, 4294967295, 4294967295, 0]
theorem nl : (NM.length : Int) = 9 := rfl
theorem ml : (MK.length : Int) = 9 := rfl
theorem and_all (v : BitVec 32) : Go.bits .and .u32 (U v) 4294967295 = U v := by
  rw [and_U, ofInt_U, show BitVec.ofInt 32 4294967295 = BitVec.allOnes 32 by decide, BitVec.and_allOnes]
theorem and_none (x : Int) : Go.bits .and .u32 x 0 = 0 := by
  rw [and_U, show BitVec.ofInt 32 0 = 0#32 from rfl, BitVec.and_zero]; rfl
theorem two_bits (v : BitVec 32) : (v &&& 6144#32 = 6144#32) ↔ (v >>> 11 &&& 3#32 = 3#32) := by
  have e6 : 6144#32 = BitVec.twoPow 32 11 ||| BitVec.twoPow 32 12 := by decide
  have e3 : 3#32 = BitVec.twoPow 32 0 ||| BitVec.twoPow 32 1 := by decide
  constructor
  · intro c
    have h0 : v.getLsbD 11 = true := by have := congrArg (·.getLsbD 11) c; simpa using this
    have h1 : v.getLsbD 12 = true := by have := congrArg (·.getLsbD 12) c; simpa using this
    rw [e3]
    apply BitVec.eq_of_getLsbD_eq; intro i hi
    simp only [BitVec.getLsbD_or, BitVec.getLsbD_and, BitVec.getLsbD_ushiftRight, BitVec.getLsbD_twoPow]
    by_cases c1 : 0 = i
    · subst c1; simp [h0]
    by_cases c2 : 1 = i
    · subst c2; simp [h1]
    simp [c1, c2]
  · intro c
    have h0 : v.getLsbD 11 = true := by have := congrArg (·.getLsbD 0) c; simpa using this
    have h1 : v.getLsbD 12 = true := by have := congrArg (·.getLsbD 1) c; simpa using this
    rw [e6]
    apply BitVec.eq_of_getLsbD_eq; intro i hi
    simp only [BitVec.getLsbD_or, BitVec.getLsbD_and, BitVec.getLsbD_twoPow]
    by_cases c1 : 11 = i
    · subst c1; simp [h0]
    by_cases c2 : 12 = i
    · subst c2; simp [h1]
    simp [c1, c2]
theorem two_I (v : BitVec 32) : (Go.bits .and .u32 (U v) 6144 = 6144) ↔ (Go.bits .and .u32 (shr .u32 (U v) 11) 3 = 3) := by
  rw [shr_U, and_U, ofInt_U, and_U, ofInt_U, show Int.toNat 11 = 11 from rfl, show (6144 : Int) = U 6144#32 by decide, show (3 : Int) = U 3#32 by decide, U_inj, U_inj, ofInt_U, ofInt_U]
  exact two_bits v
theorem step0 (k : Nat) (x1 : Int) (v : BitVec 32) (s1 s2 s3 s4 s5 s6 s7 s8 s9 s10 : Int) : corrallaw6_CsrMasks.l0 (k + 3) (U v) x1 true NM MK 0 false s1 s2 s3 s4 s5 s6 s7 s8 s9 s10 = corrallaw6_CsrMasks.l0 k (U v) x1 true NM MK 1 false (Go.bits .and .u32 (U v) 2151677951) s2 s3 s4 s5 s6 s7 s8 s9 s10 := by
  rw [corrallaw6_CsrMasks.l0]
  simp only [nl, ml, show rd NM 0 = 384 by decide, show rd MK 0 = 2151677951 by decide, show (0 : Int) < 9 by decide, show (0 : Int) ≤ 0 by decide, if_true, set384, Option.bind_some, Bool.not_true]
  rw [corrallaw6_CsrMasks.j1]
  simp only [nl, ml, show rd NM 0 = 384 by decide, show rd MK 0 = 2151677951 by decide, show (0 : Int) < 9 by decide, show (0 : Int) ≤ 0 by decide, Bool.false_eq_true, if_true, if_false, get384, Option.bind_some]
  rw [if_neg (show ¬ (384 : Int) = 768 by decide), corrallaw6_CsrMasks.j2]
  simp only [Bool.false_eq_true, if_false, if_true]
  rw [show wrap64 (0 + 1) = 1 by decide +kernel]
theorem step1 (k : Nat) (x1 : Int) (v : BitVec 32) (s1 s2 s3 s4 s5 s6 s7 s8 s9 s10 : Int) : corrallaw6_CsrMasks.l0 (k + 3) (U v) x1 true NM MK 1 false s1 s2 s3 s4 s5 s6 s7 s8 s9 s10 = corrallaw6_CsrMasks.l0 k (U v) x1 true NM MK 2 false s1 (keepI (U v)) s3 s4 s5 s6 s7 s8 s9 s10 := by
  rw [corrallaw6_CsrMasks.l0]
  simp only [nl, ml, show rd NM 1 = 768 by decide, show rd MK 1 = 136 by decide, show (1 : Int) < 9 by decide, show (0 : Int) ≤ 1 by decide, if_true, set768, Option.bind_some, Bool.not_true]
  rw [corrallaw6_CsrMasks.j1]
  simp only [nl, ml, show rd NM 1 = 768 by decide, show rd MK 1 = 136 by decide, show (1 : Int) < 9 by decide, show (0 : Int) ≤ 1 by decide, Bool.false_eq_true, if_true, if_false, get768, Option.bind_some]
  rw [corrallaw6_CsrMasks.j2]
  by_cases c : Go.bits .and .u32 (U v) 6144 = 6144
  · have e : keepI (U v) = Go.bits .or .u32 (Go.bits .and .u32 (U v) 136) 6144 := by unfold keepI; rw [if_pos ((two_I v).1 c)]
    simp only [c, e, beq_self_eq_true, if_true]
    rw [show wrap64 (1 + 1) = 2 by decide +kernel]
  · have e : keepI (U v) = Go.bits .and .u32 (U v) 136 := by unfold keepI; rw [if_neg (fun h => c ((two_I v).2 h))]
    simp only [beq_eq_false_iff_ne.2 c, e, Bool.false_eq_true, if_false, if_true]
    rw [show wrap64 (1 + 1) = 2 by decide +kernel]
theorem step2 (k : Nat) (x1 : Int) (v : BitVec 32) (s1 s2 s3 s4 s5 s6 s7 s8 s9 s10 : Int) : corrallaw6_CsrMasks.l0 (k + 3) (U v) x1 true NM MK 2 false s1 s2 s3 s4 s5 s6 s7 s8 s9 s10 = corrallaw6_CsrMasks.l0 k (U v) x1 true NM MK 3 false s1 s2 (Go.bits .and .u32 (U v) 8) s4 s5 s6 s7 s8 s9 s10 := by
  rw [corrallaw6_CsrMasks.l0]
  simp only [nl, ml, show rd NM 2 = 772 by decide, show rd MK 2 = 8 by decide, show (2 : Int) < 9 by decide, show (0 : Int) ≤ 2 by decide, if_true, set772, Option.bind_some, Bool.not_true]
  rw [corrallaw6_CsrMasks.j1]
  simp only [nl, ml, show rd NM 2 = 772 by decide, show rd MK 2 = 8 by decide, show (2 : Int) < 9 by decide, show (0 : Int) ≤ 2 by decide, Bool.false_eq_true, if_true, if_false, get772, Option.bind_some]
  rw [if_neg (show ¬ (772 : Int) = 768 by decide), corrallaw6_CsrMasks.j2]
  simp only [Bool.false_eq_true, if_false, if_true]
  rw [show wrap64 (2 + 1) = 3 by decide +kernel]
theorem step3 (k : Nat) (x1 : Int) (v : BitVec 32) (s1 s2 s3 s4 s5 s6 s7 s8 s9 s10 : Int) : corrallaw6_CsrMasks.l0 (k + 3) (U v) x1 true NM MK 3 false s1 s2 s3 s4 s5 s6 s7 s8 s9 s10 = corrallaw6_CsrMasks.l0 k (U v) x1 true NM MK 4 false s1 s2 s3 (Go.bits .and .u32 (U v) 4294967292) s5 s6 s7 s8 s9 s10 := by
  rw [corrallaw6_CsrMasks.l0]
  simp only [nl, ml, show rd NM 3 = 773 by decide, show rd MK 3 = 4294967292 by decide, show (3 : Int) < 9 by decide, show (0 : Int) ≤ 3 by decide, if_true, set773, Option.bind_some, Bool.not_true]
  rw [corrallaw6_CsrMasks.j1]
  simp only [nl, ml, show rd NM 3 = 773 by decide, show rd MK 3 = 4294967292 by decide, show (3 : Int) < 9 by decide, show (0 : Int) ≤ 3 by decide, Bool.false_eq_true, if_true, if_false, get773, Option.bind_some]
  rw [if_neg (show ¬ (773 : Int) = 768 by decide), corrallaw6_CsrMasks.j2]
  simp only [Bool.false_eq_true, if_false, if_true]
  rw [show wrap64 (3 + 1) = 4 by decide +kernel]
theorem step4 (k : Nat) (x1 : Int) (v : BitVec 32) (s1 s2 s3 s4 s5 s6 s7 s8 s9 s10 : Int) : corrallaw6_CsrMasks.l0 (k + 3) (U v) x1 true NM MK 4 false s1 s2 s3 s4 s5 s6 s7 s8 s9 s10 = corrallaw6_CsrMasks.l0 k (U v) x1 true NM MK 5 false s1 s2 s3 s4 (U v) s6 s7 s8 s9 s10 := by
  rw [corrallaw6_CsrMasks.l0]
  simp only [nl, ml, show rd NM 4 = 832 by decide, show rd MK 4 = 4294967295 by decide, show (4 : Int) < 9 by decide, show (0 : Int) ≤ 4 by decide, if_true, set832, Option.bind_some, Bool.not_true]
  rw [corrallaw6_CsrMasks.j1]
  simp only [nl, ml, show rd NM 4 = 832 by decide, show rd MK 4 = 4294967295 by decide, show (4 : Int) < 9 by decide, show (0 : Int) ≤ 4 by decide, Bool.false_eq_true, if_true, if_false, get832, Option.bind_some]
  rw [if_neg (show ¬ (832 : Int) = 768 by decide), corrallaw6_CsrMasks.j2]
  simp only [Bool.false_eq_true, if_false, if_true, and_all]
  rw [show wrap64 (4 + 1) = 5 by decide +kernel]
theorem step5 (k : Nat) (x1 : Int) (v : BitVec 32) (s1 s2 s3 s4 s5 s6 s7 s8 s9 s10 : Int) : corrallaw6_CsrMasks.l0 (k + 3) (U v) x1 true NM MK 5 false s1 s2 s3 s4 s5 s6 s7 s8 s9 s10 = corrallaw6_CsrMasks.l0 k (U v) x1 true NM MK 6 false s1 s2 s3 s4 s5 (Go.bits .and .u32 (U v) 4294967292) s7 s8 s9 s10 := by
  rw [corrallaw6_CsrMasks.l0]
  simp only [nl, ml, show rd NM 5 = 833 by decide, show rd MK 5 = 4294967292 by decide, show (5 : Int) < 9 by decide, show (0 : Int) ≤ 5 by decide, if_true, set833, Option.bind_some, Bool.not_true]
  rw [corrallaw6_CsrMasks.j1]
  simp only [nl, ml, show rd NM 5 = 833 by decide, show rd MK 5 = 4294967292 by decide, show (5 : Int) < 9 by decide, show (0 : Int) ≤ 5 by decide, Bool.false_eq_true, if_true, if_false, get833, Option.bind_some]
  rw [if_neg (show ¬ (833 : Int) = 768 by decide), corrallaw6_CsrMasks.j2]
  simp only [Bool.false_eq_true, if_false, if_true]
  rw [show wrap64 (5 + 1) = 6 by decide +kernel]
theorem step6 (k : Nat) (x1 : Int) (v : BitVec 32) (s1 s2 s3 s4 s5 s6 s7 s8 s9 s10 : Int) : corrallaw6_CsrMasks.l0 (k + 3) (U v) x1 true NM MK 6 false s1 s2 s3 s4 s5 s6 s7 s8 s9 s10 = corrallaw6_CsrMasks.l0 k (U v) x1 true NM MK 7 false s1 s2 s3 s4 s5 s6 (U v) s8 s9 s10 := by
  rw [corrallaw6_CsrMasks.l0]
  simp only [nl, ml, show rd NM 6 = 834 by decide, show rd MK 6 = 4294967295 by decide, show (6 : Int) < 9 by decide, show (0 : Int) ≤ 6 by decide, if_true, set834, Option.bind_some, Bool.not_true]
  rw [corrallaw6_CsrMasks.j1]
  simp only [nl, ml, show rd NM 6 = 834 by decide, show rd MK 6 = 4294967295 by decide, show (6 : Int) < 9 by decide, show (0 : Int) ≤ 6 by decide, Bool.false_eq_true, if_true, if_false, get834, Option.bind_some]
  rw [if_neg (show ¬ (834 : Int) = 768 by decide), corrallaw6_CsrMasks.j2]
  simp only [Bool.false_eq_true, if_false, if_true, and_all]
  rw [show wrap64 (6 + 1) = 7 by decide +kernel]
theorem step7 (k : Nat) (x1 : Int) (v : BitVec 32) (s1 s2 s3 s4 s5 s6 s7 s8 s9 s10 : Int) : corrallaw6_CsrMasks.l0 (k + 3) (U v) x1 true NM MK 7 false s1 s2 s3 s4 s5 s6 s7 s8 s9 s10 = corrallaw6_CsrMasks.l0 k (U v) x1 true NM MK 8 false s1 s2 s3 s4 s5 s6 s7 (U v) s9 s10 := by
  rw [corrallaw6_CsrMasks.l0]
  simp only [nl, ml, show rd NM 7 = 835 by decide, show rd MK 7 = 4294967295 by decide, show (7 : Int) < 9 by decide, show (0 : Int) ≤ 7 by decide, if_true, set835, Option.bind_some, Bool.not_true]
  rw [corrallaw6_CsrMasks.j1]
  simp only [nl, ml, show rd NM 7 = 835 by decide, show rd MK 7 = 4294967295 by decide, show (7 : Int) < 9 by decide, show (0 : Int) ≤ 7 by decide, Bool.false_eq_true, if_true, if_false, get835, Option.bind_some]
  rw [if_neg (show ¬ (835 : Int) = 768 by decide), corrallaw6_CsrMasks.j2]
  simp only [Bool.false_eq_true, if_false, if_true, and_all]
  rw [show wrap64 (7 + 1) = 8 by decide +kernel]
theorem step8 (k : Nat) (x1 : Int) (v : BitVec 32) (s1 s2 s3 s4 s5 s6 s7 s8 s9 s10 : Int) (h : s9 = 0) : corrallaw6_CsrMasks.l0 (k + 3) (U v) x1 true NM MK 8 false s1 s2 s3 s4 s5 s6 s7 s8 s9 s10 = corrallaw6_CsrMasks.l0 k (U v) x1 true NM MK 9 false s1 s2 s3 s4 s5 s6 s7 s8 s9 s10 := by
  rw [corrallaw6_CsrMasks.l0]
  simp only [nl, ml, show rd NM 8 = 836 by decide, show rd MK 8 = 0 by decide, show (8 : Int) < 9 by decide, show (0 : Int) ≤ 8 by decide, if_true, set836, Option.bind_some, Bool.not_true]
  rw [corrallaw6_CsrMasks.j1]
  simp only [nl, ml, show rd NM 8 = 836 by decide, show rd MK 8 = 0 by decide, show (8 : Int) < 9 by decide, show (0 : Int) ≤ 8 by decide, Bool.false_eq_true, if_true, if_false, get836, Option.bind_some]
  rw [if_neg (show ¬ (836 : Int) = 768 by decide), corrallaw6_CsrMasks.j2]
  simp only [Bool.false_eq_true, if_false, if_true, and_none, h]
  rw [show wrap64 (8 + 1) = 9 by decide +kernel]
theorem main (v : BitVec 32) (x1 : Int) (k : Nat) : corrallaw6_CsrMasks.f (k + 1 + 27) (U v) x1 = some true := by
  unfold corrallaw6_CsrMasks.f
  rw [first_true, Option.bind_some, if_pos rfl]
  unfold csr_New.f
  rw [Option.bind_some]
  show corrallaw6_CsrMasks.l0 (k + 1 + 24 + 3) (U v) x1 true NM MK 0 false 0 0 0 0 0 0 0 0 0 2 = some true
  rw [step0, show k + 1 + 24 = k + 1 + 21 + 3 from rfl, step1, show k + 1 + 21 = k + 1 + 18 + 3 from rfl, step2, show k + 1 + 18 = k + 1 + 15 + 3 from rfl, step3, show k + 1 + 15 = k + 1 + 12 + 3 from rfl, step4, show k + 1 + 12 = k + 1 + 9 + 3 from rfl, step5, show k + 1 + 9 = k + 1 + 6 + 3 from rfl, step6, show k + 1 + 6 = k + 1 + 3 + 3 from rfl, step7, step8 (h := rfl), corrallaw6_CsrMasks.l0]
  simp only [nl, show ¬ ((9 : Int) < 9) by decide, if_false, get3860, Option.bind_some, if_true, csr_File_Satp.f, csr_File_All.f]
  rfl
end CsrMasksP
theorem CsrMasks : corrallaw6_CsrMasks.Pure := by
  intro a0 a1 h0 _
  obtain ⟨v, rfl⟩ := wf_u32 h0
  exact ⟨2 + 1 + 27, CsrMasksP.main v a1 2⟩

end Go.Proofs.Ytcaohimipkoapaa.Pure
