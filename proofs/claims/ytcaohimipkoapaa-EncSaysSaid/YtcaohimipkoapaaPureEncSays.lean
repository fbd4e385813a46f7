/- Any word's fields, and immediates of any format, are what the reference says; fields split and joined are the word again: for every two words and every format. -/
import Derived.Test.YtcaohimipkoapaaQEncSaysx4
import Derived.Test.YtcaohimipkoapaaBv
set_option linter.unusedSimpArgs false
set_option linter.unusedVariables false
namespace Go.Proofs.Ytcaohimipkoapaa.Pure
open Go.RowKit Go.Proofs.Ytcaohimipkoapaa.QEncSays Go.Proofs.YtcaohimipkoapaaW.PrintWords Go.Proofs.YtcaohimipkoapaaW.PrintLast Go.Proofs.YtcaohimipkoapaaW.PrintMore Go.Proofs.Ytcaohimipkoapaa.Bv
namespace EncSaysP
theorem mask_eq (n : Int) : word_mask.f n = some (U (maskB n)) := by
  unfold word_mask.f maskB
  by_cases h : n ≥ 32
  · rw [if_pos h, if_pos h]; rfl
  · rw [if_neg h, if_neg h, shl_U, mod_U]
    have e1 : BitVec.ofInt 32 1 = 1#32 := rfl
    have e2 : (mx n 0).toNat = n.toNat := by unfold mx; split <;> omega
    congr 2
    rw [e2, e1, Bv.ofInt_sub, ofInt_U, e1]

def bitsB (w : BitVec 32) (lo n : Int) : BitVec 32 := if lo < 0 then 0#32 else (w >>> lo.toNat) &&& maskB n
theorem bitsB_bit (w : BitVec 32) (lo n : Int) (i : Nat) : (bitsB w lo n).getLsbD i = (decide (0 ≤ lo) && (decide ((i : Int) < n) && w.getLsbD (lo.toNat + i))) := by
  unfold bitsB
  by_cases h : lo < 0
  · rw [if_pos h]; have : ¬ 0 ≤ lo := by omega
    simp [this]
  · rw [if_neg h, BitVec.getLsbD_and, maskB_bit, BitVec.getLsbD_ushiftRight]
    have h0 : 0 ≤ lo := by omega
    by_cases hi : i < 32
    · simp [hi, h0, Bool.and_comm]
    · rw [BitVec.getLsbD_of_ge w (lo.toNat + i) (by omega)]; simp
theorem bits_eq (w : BitVec 32) (lo n : Int) : word_Bits.f (U w) lo n = some (U (bitsB w lo n)) := by
  have h0 : (0 : Int) = U 0#32 := rfl
  unfold word_Bits.f
  by_cases h1 : lo < 0
  · rw [if_pos h1]; unfold bitsB; rw [if_pos h1]; rfl
  rw [if_neg h1]
  by_cases h2 : lo ≥ 32
  · rw [if_pos h2]; unfold bitsB; rw [if_neg h1, BitVec.ushiftRight_eq_zero (by omega)]; simp; rfl
  rw [if_neg h2]
  by_cases h3 : n < 1
  · rw [if_pos h3]
    have : bitsB w lo n = 0#32 := by
      apply BitVec.eq_of_getLsbD_eq; intro i hi; rw [bitsB_bit]
      have : ¬ (i : Int) < n := by omega
      simp [this]
    rw [this]; rfl
  rw [if_neg h3, if_pos (by omega)]
  simp only [mask_eq, Option.bind_some, shr_U, and_U, ofInt_U]
  unfold bitsB; rw [if_neg h1]

def signB (w : BitVec 32) (n : Int) : BitVec 32 := if n < 1 then 0#32 else if n ≥ 32 then w else (w <<< (32 - n).toNat).sshiftRight (32 - n).toNat
theorem sign_eq (w : BitVec 32) (n : Int) : word_Sign.f (U w) n = some (U (signB w n)) := by
  unfold word_Sign.f signB
  by_cases h1 : n < 1
  · rw [if_pos h1, if_pos h1]; rfl
  rw [if_neg h1, if_neg h1]
  by_cases h2 : n ≥ 32
  · rw [if_pos h2, if_pos h2]
  rw [if_neg h2, if_neg h2]
  have e : wrap64 (32 - n) = 32 - n := by unfold wrap64; omega
  rw [e, if_pos (by omega), shl_U, ofInt_U, wrap32_U, sar_U _ _ (by omega)]
theorem signB_bit (w : BitVec 32) (n : Int) (h1 : 1 ≤ n) (h2 : n ≤ 32) (i : Nat) (hi : i < 32) : (signB w n).getLsbD i = w.getLsbD (if (i : Int) < n then i else (n - 1).toNat) := by
  unfold signB
  rw [if_neg (by omega)]
  by_cases h : n ≥ 32
  · rw [if_pos h, if_pos (by omega)]
  rw [if_neg h, BitVec.getLsbD_sshiftRight, BitVec.msb_eq_getLsbD_last, BitVec.getLsbD_shiftLeft, BitVec.getLsbD_shiftLeft]
  obtain ⟨m, hm⟩ : ∃ m : Nat, (32 - n).toNat = m := ⟨_, rfl⟩
  rw [hm]
  by_cases c : (i : Int) < n
  · have a1 : m + i < 32 := by omega
    have a2 : m + i - m = i := by omega
    have a3 : ¬ m + i < m := by omega
    have a4 : ¬ 32 ≤ i := by omega
    rw [if_pos c, if_pos a1, decide_eq_true a1, decide_eq_false a3, decide_eq_false a4, a2]
    simp
  · have a1 : ¬ m + i < 32 := by omega
    have a2 : (n - 1).toNat = 32 - 1 - m := by omega
    have a3 : ¬ 32 - 1 < m := by omega
    have a4 : ¬ 32 ≤ i := by omega
    rw [if_neg c, if_neg a1, decide_eq_false a3, decide_eq_false a4, a2]
    simp

/-- The pieces of a format: from a place of the word, how many, at a place of the immediate; and how many bits are extended. -/
def pcs (f : Int) : List (Nat × Nat × Nat) :=
  if f = 73 then [(20, 12, 0)] else if f = 83 then [(25, 7, 5), (7, 5, 0)] else if f = 66 then [(31, 1, 12), (7, 1, 11), (25, 6, 5), (8, 4, 1)] else if f = 85 then [(12, 20, 12)] else if f = 74 then [(31, 1, 20), (12, 8, 12), (20, 1, 11), (21, 10, 1)] else []
def ext (f : Int) : Nat := if f = 73 then 12 else if f = 83 then 12 else if f = 66 then 13 else if f = 85 then 32 else if f = 74 then 21 else 0
def toS (p : Nat × Nat × Nat) : S67 := ⟨p.1, p.2.1, p.2.2⟩
theorem pieces_eq (f : Int) : enc_pieces.f f = some ((pcs f).map toS, (ext f : Int)) := by
  unfold enc_pieces.f pcs ext
  by_cases h1 : f = 73
  · subst h1; rfl
  by_cases h2 : f = 83
  · subst h2; rfl
  by_cases h3 : f = 66
  · subst h3; rfl
  by_cases h4 : f = 85
  · subst h4; rfl
  by_cases h5 : f = 74
  · subst h5; rfl
  simp [h1, h2, h3, h4, h5]
/-- Bits taken from a place on, laid at a place. -/
def moved (w : BitVec 32) (from_ n at_ : Nat) : BitVec 32 := bitsB w (from_ : Int) (n : Int) <<< at_
theorem moved_bit (w : BitVec 32) (from_ n at_ i : Nat) (hi : i < 32) : (moved w from_ n at_).getLsbD i = (decide (at_ ≤ i ∧ i - at_ < n) && w.getLsbD (from_ + (i - at_))) := by
  unfold moved
  rw [BitVec.getLsbD_shiftLeft, bitsB_bit, decide_eq_true hi, decide_eq_true (show (0 : Int) ≤ (from_ : Int) by omega), Int.toNat_natCast]
  by_cases c : at_ ≤ i
  · rw [decide_eq_false (show ¬ i < at_ by omega)]
    by_cases d : i - at_ < n
    · rw [decide_eq_true (show ((i - at_ : Nat) : Int) < (n : Int) by omega), decide_eq_true (show at_ ≤ i ∧ i - at_ < n from ⟨c, d⟩)]; simp
    · rw [decide_eq_false (show ¬ ((i - at_ : Nat) : Int) < (n : Int) by omega), decide_eq_false (show ¬ (at_ ≤ i ∧ i - at_ < n) by omega)]; simp
  · rw [decide_eq_true (show i < at_ by omega), decide_eq_false (show ¬ (at_ ≤ i ∧ i - at_ < n) by omega)]; simp
/-- Which place a bit comes from. -/
def pick (l : List (Nat × Nat × Nat)) (i : Nat) : Option Nat := (l.find? fun p => decide (p.2.2 ≤ i ∧ i - p.2.2 < p.2.1)).map fun p => p.1 + (i - p.2.2)
/-- The bit of that place. -/
def bsel (w : BitVec 32) : Option Nat → Bool
  | none => false
  | some j => w.getLsbD j
def apart : List (Nat × Nat × Nat) → Nat → Bool
  | [], _ => true
  | p :: l, i => (!decide (p.2.2 ≤ i ∧ i - p.2.2 < p.2.1) || (pick l i).isNone) && apart l i
theorem or_bits (w : BitVec 32) (l : List (Nat × Nat × Nat)) (i : Nat) (hi : i < 32) (h : apart l i = true) : ∀ a : BitVec 32,
    (l.foldl (fun a p => a ||| moved w p.1 p.2.1 p.2.2) a).getLsbD i = (a.getLsbD i || bsel w (pick l i)) := by
  induction l with
  | nil => intro a; simp [pick, bsel]
  | cons p l ih =>
    intro a
    simp only [apart, Bool.and_eq_true] at h
    rw [List.foldl_cons, ih h.2, BitVec.getLsbD_or, moved_bit _ _ _ _ _ hi]
    by_cases c : p.2.2 ≤ i ∧ i - p.2.2 < p.2.1
    · have hn : pick l i = none := by
        have := h.1
        rw [decide_eq_true c] at this
        simpa using this
      have hp : pick (p :: l) i = some (p.1 + (i - p.2.2)) := by unfold pick; rw [List.find?_cons_of_pos (by simpa using c)]; rfl
      rw [hn, hp, decide_eq_true c]; simp [bsel]
    · have hp : pick (p :: l) i = pick l i := by unfold pick; rw [List.find?_cons_of_neg (by simpa using c)]
      rw [hp, decide_eq_false c]; simp
theorem rd_S (l : List (Nat × Nat × Nat)) (i : Nat) (h : i < l.length) : rd_T67 (l.map toS) (i : Int) = toS l[i] := by
  unfold rd_T67; simp [h]
theorem wrap_succ (i : Nat) (h : i < 4611686018427387904) : wrap64 ((i : Int) + 1) = ((i + 1 : Nat) : Int) := by unfold wrap64; omega
/-- The bits of an immediate, ahead of the extension. -/
def raw (f : Int) (w : BitVec 32) : BitVec 32 := (pcs f).foldl (fun a p => a ||| moved w p.1 p.2.1 p.2.2) 0#32
def immB (f : Int) (w : BitVec 32) : BitVec 32 := signB (raw f w) (ext f : Int)
theorem pcs_len (f : Int) : (pcs f).length ≤ 4 := by
  unfold pcs; split; decide; split; decide; split; decide; split; decide; split <;> decide
theorem imm_loop (w : BitVec 32) (l : List (Nat × Nat × Nat)) (hl : l.length ≤ 4) (n : Int) (d : Nat) : ∀ (k i : Nat) (a : BitVec 32), i + d = l.length → d + 1 ≤ k →
    enc_Imm.l0 k (U w) n (U a) (l.map toS) (l.length : Int) (i : Int) = some (U (signB ((l.drop i).foldl (fun a p => a ||| moved w p.1 p.2.1 p.2.2) a) n)) := by
  induction d with
  | zero =>
    intro k i a hi hk
    obtain ⟨k, rfl⟩ : ∃ m, k = m + 1 := ⟨k - 1, by omega⟩
    simp only [enc_Imm.l0]
    rw [if_neg (by omega), List.drop_of_length_le (by omega), sign_eq]
    rfl
  | succ d ih =>
    intro k i a hi hk
    obtain ⟨k, rfl⟩ : ∃ m, k = m + 1 := ⟨k - 1, by omega⟩
    have hlt : i < l.length := by omega
    simp only [enc_Imm.l0]
    rw [if_pos (by omega), if_pos (by omega), if_pos (by rw [List.length_map]; omega), rd_S l i hlt, wrap_succ i (by omega), List.drop_eq_getElem_cons hlt, List.foldl_cons]
    have e0 : (toS l[i]).f0 = (l[i].1 : Int) := rfl
    have e1 : (toS l[i]).f1 = (l[i].2.1 : Int) := rfl
    have e2 : (toS l[i]).f2 = (l[i].2.2 : Int) := rfl
    rw [e0, e1, e2, bits_eq, Option.bind_some]
    rw [if_pos (by omega), shl_U, or_U, ofInt_U, ofInt_U, ofInt_U, Int.toNat_natCast]
    exact ih k (i + 1) _ (by omega) (by omega)
theorem imm_eq (f : Int) (w : BitVec 32) (k : Nat) (hk : 5 ≤ k) : enc_Imm.f k f (U w) = some (U (immB f w)) := by
  have h0 : U 0#32 = 0 := rfl
  have := imm_loop w (pcs f) (pcs_len f) (ext f) (pcs f).length k 0 0#32 (by omega) (by have := pcs_len f; omega)
  rw [h0] at this
  unfold enc_Imm.f
  rw [pieces_eq, Option.bind_some, List.length_map]
  simpa [immB, raw] using this
/-- The five formats. -/
def five : List Int := [73, 83, 66, 85, 74]
theorem apart_all : ∀ f ∈ five, ∀ i : Fin 32, apart (pcs f) i.val = true := by decide
theorem ext_all : ∀ f ∈ five, 1 ≤ ext f ∧ ext f ≤ 32 := by decide
/-- Which bit of the word a bit of the immediate is. -/
def src (f : Int) (i : Nat) : Option Nat := pick (pcs f) (if i < ext f then i else ext f - 1)
theorem imm_bit (f : Int) (hf : f ∈ five) (w : BitVec 32) (i : Nat) (hi : i < 32) : (immB f w).getLsbD i = bsel w (src f i) := by
  have he := ext_all f hf
  unfold immB src
  rw [signB_bit _ _ (by omega) (by omega) i hi]
  have e : (if (i : Int) < (ext f : Int) then i else ((ext f : Int) - 1).toNat) = (if i < ext f then i else ext f - 1) := by
    by_cases c : i < ext f
    · rw [if_pos (by omega), if_pos c]
    · rw [if_neg (by omega), if_neg c]; omega
  rw [e]
  have hj : (if i < ext f then i else ext f - 1) < 32 := by split <;> omega
  unfold raw
  rw [or_bits w _ _ hj (apart_all f hf ⟨_, hj⟩)]
  simp

def turn (p : Nat × Nat × Nat) : Nat × Nat × Nat := (p.2.2, p.2.1, p.1)
/-- The word with an immediate's bits. -/
def layB (f : Int) (v : BitVec 32) : BitVec 32 := ((pcs f).map turn).foldl (fun a p => a ||| moved v p.1 p.2.1 p.2.2) 0#32
theorem pcs_pos (f : Int) (hf : f ∈ five) : 0 < (pcs f).length := by
  have : ∀ f ∈ five, 0 < (pcs f).length := by decide
  exact this f hf
theorem lay_loop (f : Int) (hf : f ∈ five) (v : BitVec 32) (d : Nat) : ∀ (k i : Nat) (a : BitVec 32), i + d = (pcs f).length → d + 6 ≤ k →
    enc_Lay.l0 k f (U v) ((pcs f).map toS) (U a) ((pcs f).map toS) ((pcs f).length : Int) (i : Int) =
      (if U (immB f (((pcs f).drop i).foldl (fun a p => a ||| moved v p.2.2 p.2.1 p.1) a)) = U v then some (U (((pcs f).drop i).foldl (fun a p => a ||| moved v p.2.2 p.2.1 p.1) a), true) else some (0, false)) := by
  have hp := pcs_pos f hf
  have hl := pcs_len f
  induction d with
  | zero =>
    intro k i a hi hk
    obtain ⟨k, rfl⟩ : ∃ m, k = m + 1 := ⟨k - 1, by omega⟩
    simp only [enc_Lay.l0, List.length_map]
    rw [if_neg (by omega), if_pos (by omega), List.drop_of_length_le (by omega), imm_eq f a k (by omega)]
    rfl
  | succ d ih =>
    intro k i a hi hk
    obtain ⟨k, rfl⟩ : ∃ m, k = m + 1 := ⟨k - 1, by omega⟩
    have hlt : i < (pcs f).length := by omega
    have ih' := fun a => ih k (i + 1) a (by omega) (by omega)
    simp only [enc_Lay.l0, List.length_map]
    rw [if_pos (by omega), if_pos (by omega), if_pos (by omega), rd_S _ i hlt, wrap_succ i (by omega), List.drop_eq_getElem_cons hlt, List.foldl_cons]
    generalize (pcs f)[i] = p at *
    have e0 : (toS p).f0 = (p.1 : Int) := rfl
    have e1 : (toS p).f1 = (p.2.1 : Int) := rfl
    have e2 : (toS p).f2 = (p.2.2 : Int) := rfl
    rw [e0, e1, e2, bits_eq, Option.bind_some, if_pos (by omega), shl_U, or_U, ofInt_U, ofInt_U, ofInt_U, Int.toNat_natCast]
    exact ih' _
theorem lay_eq (f : Int) (hf : f ∈ five) (v : BitVec 32) (k : Nat) (hk : 10 ≤ k) :
    enc_Lay.f k f (U v) = (if U (immB f (layB f v)) = U v then some (U (layB f v), true) else some (0, false)) := by
  have h0 : U 0#32 = 0 := rfl
  have hl := pcs_len f
  have := lay_loop f hf v (pcs f).length k 0 0#32 (by omega) (by omega)
  rw [h0] at this
  unfold enc_Lay.f
  rw [pieces_eq, Option.bind_some, List.length_map]
  have e : layB f v = (pcs f).foldl (fun a p => a ||| moved v p.2.2 p.2.1 p.1) 0#32 := by
    unfold layB; rw [List.foldl_map]; rfl
  rw [e]
  simpa using this
/-- Which bit of the immediate a bit of the word is. -/
def back (f : Int) (j : Nat) : Option Nat := pick ((pcs f).map turn) j
theorem apart_back : ∀ f ∈ five, ∀ i : Fin 32, apart ((pcs f).map turn) i.val = true := by decide
theorem lay_bit (f : Int) (hf : f ∈ five) (v : BitVec 32) (j : Nat) (hj : j < 32) : (layB f v).getLsbD j = bsel v (back f j) := by
  unfold layB back
  rw [or_bits v _ _ hj (apart_back f hf ⟨_, hj⟩)]
  simp

theorem wrap_u64 (n : Int) : IntKind.u64.wrap n = n % 18446744073709551616 := by
  simp [IntKind.wrap, IntKind.bits, IntKind.signed]
theorem mask_small (n : Int) (h : n < 32) : (shl .u32 1 n - 1) % 4294967296 = U (maskB n) := by
  have e1 : BitVec.ofInt 32 1 = 1#32 := rfl
  unfold maskB
  rw [if_neg (by omega), shl_U, mod_U, Bv.ofInt_sub, ofInt_U, e1]
theorem top_one (w : BitVec 32) (n : Int) (h1 : 1 ≤ n) (h2 : n ≤ 31) : U ((w &&& maskB n) >>> (n - 1).toNat) = 1 ↔ w.getLsbD (n - 1).toNat = true := by
  obtain ⟨m, hm⟩ : ∃ m : Nat, (n - 1).toNat = m := ⟨_, rfl⟩
  rw [hm]
  show U ((w &&& maskB n) >>> m) = U 1#32 ↔ _
  rw [U_inj]
  have hb : ∀ i, ((w &&& maskB n) >>> m).getLsbD i = (decide (i = 0) && w.getLsbD m) := by
    intro i
    rw [BitVec.getLsbD_ushiftRight, BitVec.getLsbD_and, maskB_bit]
    by_cases c : i = 0
    · subst c
      have a1 : m + 0 < 32 := by omega
      have a2 : ((m + 0 : Nat) : Int) < n := by omega
      rw [decide_eq_true a1, decide_eq_true a2]; simp
    · have a2 : ¬ ((m + i : Nat) : Int) < n := by omega
      rw [decide_eq_false a2, decide_eq_false c]; simp
  have h1b : ∀ i, (1#32).getLsbD i = decide (i = 0) := by
    intro i
    by_cases c : i < 32
    · have : ∀ j : Fin 32, (1#32).getLsbD j.val = decide (j.val = 0) := by decide
      exact this ⟨i, c⟩
    · rw [BitVec.getLsbD_of_ge _ _ (by omega), decide_eq_false (by omega)]
  constructor
  · intro h
    have := congrArg (fun v => v.getLsbD 0) h
    simp only [hb, h1b] at this
    simpa using this
  · intro h
    apply BitVec.eq_of_getLsbD_eq; intro i hi
    rw [hb, h1b, h]; simp
theorem refSign_eq (w : BitVec 32) (n : Int) : corralref1_Sign.f (U w) n = some (U (signB w n)) := by
  unfold corralref1_Sign.f
  by_cases h1 : n < 1
  · rw [if_pos h1]; unfold signB; rw [if_pos h1]; rfl
  rw [if_neg h1]
  by_cases h2 : n > 31
  · rw [if_pos h2]; unfold signB; rw [if_neg h1, if_pos (by omega)]
  rw [if_neg h2]
  have e1 : IntKind.u64.wrap n = n := by rw [wrap_u64]; omega
  have e2 : wrap64 (n - 1) = n - 1 := by unfold wrap64; omega
  have e3 : IntKind.u64.wrap (n - 1) = n - 1 := by rw [wrap_u64]; omega
  have em : BitVec.ofInt 32 4294967295 = BitVec.allOnes 32 := by decide
  rw [e1, e2, e3, if_pos (by omega), if_pos (by omega), mask_small n (by omega), and_U, ofInt_U, ofInt_U, shr_U]
  have ht := top_one w n (by omega) (by omega)
  have ha : 1 ≤ n := by omega
  have hb : n ≤ 32 := by omega
  have am : (n - 1).toNat < 32 := by omega
  by_cases c : w.getLsbD (n - 1).toNat = true
  · rw [if_pos (ht.2 c), xor_U, or_U, ofInt_U, ofInt_U, ofInt_U, em]
    congr 2
    apply BitVec.eq_of_getLsbD_eq; intro i hi
    rw [signB_bit w n ha hb i hi, BitVec.getLsbD_or, BitVec.getLsbD_and, BitVec.getLsbD_xor, BitVec.getLsbD_allOnes, maskB_bit, decide_eq_true hi]
    by_cases d : (i : Int) < n
    · rw [if_pos d, decide_eq_true d]; simp
    · rw [if_neg d, decide_eq_false d, c]; simp
  · have c : w.getLsbD (n - 1).toNat = false := by simpa using c
    rw [if_neg (fun h => by rw [ht.1 h] at c; cases c)]
    congr 2
    apply BitVec.eq_of_getLsbD_eq; intro i hi
    rw [signB_bit w n ha hb i hi, BitVec.getLsbD_and, maskB_bit, decide_eq_true hi]
    by_cases d : (i : Int) < n
    · rw [if_pos d, decide_eq_true d]; simp
    · rw [if_neg d, decide_eq_false d, c]; simp
theorem refBits_eq (w : BitVec 32) (lo n : Int) (h0 : 0 ≤ lo) (h31 : lo ≤ 31) (h1 : 1 ≤ n) (h9 : n ≤ 9223372036854775807) (k : Nat) (hk : 1 ≤ k) : corralref1_Bits.f k (U w) lo n = some (U (bitsB w lo n)) := by
  obtain ⟨k, rfl⟩ : ∃ m, k = m + 1 := ⟨k - 1, by omega⟩
  unfold corralref1_Bits.f
  have e1 : IntKind.u64.wrap lo = lo := by rw [wrap_u64]; omega
  have e2 : IntKind.u64.wrap n = n := by rw [wrap_u64]; omega
  rw [if_neg (by omega), if_neg (by omega), decide_eq_false (show ¬ n < 1 by omega)]
  simp only [corralref1_Bits.j0]
  rw [if_neg (by decide), e1, if_pos h0, e2]
  by_cases h4 : n ≥ 32
  · rw [if_pos h4, shr_U]
    congr 2
    apply BitVec.eq_of_getLsbD_eq; intro i hi
    have a1 : (i : Int) < n := by omega
    rw [bitsB_bit, BitVec.getLsbD_ushiftRight, decide_eq_true a1, decide_eq_true h0]; simp
  · rw [if_neg h4, if_pos (by omega), shr_U, mask_small n (by omega), and_U, ofInt_U, ofInt_U]
    unfold bitsB; rw [if_neg (by omega)]
theorem place_mv (v : BitVec 32) (a n lo : Nat) (hl : lo ≤ 31) (hn : 1 ≤ n) (hn2 : n ≤ 32) (k : Nat) (hk : 1 ≤ k) : corralref1_Place.f k (U (v >>> a)) (lo : Int) (n : Int) = some (U (moved v a n lo)) := by
  unfold corralref1_Place.f
  have e1 : IntKind.u64.wrap (lo : Int) = (lo : Int) := by rw [wrap_u64]; omega
  rw [if_neg (by omega), if_neg (by omega), if_neg (by omega), refBits_eq _ 0 n (by decide) (by decide) (by omega) (by omega) k hk, Option.bind_some, e1, if_pos (by omega), shl_U, ofInt_U, Int.toNat_natCast]
  have e : bitsB (v >>> a) 0 (n : Int) = bitsB v (a : Int) (n : Int) := by
    apply BitVec.eq_of_getLsbD_eq; intro i hi
    rw [bitsB_bit, bitsB_bit, BitVec.getLsbD_ushiftRight]
    simp
  unfold moved
  rw [e]
theorem shr0 (v : BitVec 32) : v >>> 0 = v := by simp

namespace Pk
/-- One field laid. -/
def step (a : BitVec 32) (f : S72) : BitVec 32 := if 0 ≤ f.f0 ∧ f.f0 < 32 then a ||| ((BitVec.ofInt 32 f.f2 &&& maskB f.f1) <<< f.f0.toNat) else a
theorem rd_at (l : List S72) (i : Nat) (h : i < l.length) : rd_T72 l (i : Int) = l[i] := by
  unfold rd_T72; simp [h]
theorem wrap_succ (i : Nat) (h : i < 4611686018427387904) : wrap64 ((i : Int) + 1) = ((i + 1 : Nat) : Int) := by unfold wrap64; omega
theorem pack_loop (l : List S72) (hl : l.length ≤ 4611686018427387904) (d : Nat) : ∀ (k i : Nat) (a : BitVec 32), i + d = l.length → d + 1 ≤ k →
    word_Pack.l0 k (U a) l (l.length : Int) (i : Int) = some (U ((l.drop i).foldl step a)) := by
  induction d with
  | zero =>
    intro k i a hi hk
    obtain ⟨k, rfl⟩ : ∃ m, k = m + 1 := ⟨k - 1, by omega⟩
    simp only [word_Pack.l0]
    rw [if_neg (by omega), List.drop_of_length_le (by omega)]
    rfl
  | succ d ih =>
    intro k i a hi hk
    obtain ⟨k, rfl⟩ : ∃ m, k = m + 1 := ⟨k - 1, by omega⟩
    have hlt : i < l.length := by omega
    have ih' := fun a => ih k (i + 1) a (by omega) (by omega)
    simp only [word_Pack.l0]
    rw [if_pos (by omega), if_pos (by omega), if_pos (by omega), rd_at l i hlt, wrap_succ i (by omega), List.drop_eq_getElem_cons hlt, List.foldl_cons]
    generalize l[i] = f
    unfold step
    by_cases c1 : f.f0 ≥ 0
    · by_cases c2 : f.f0 < 32
      · rw [if_pos c1, if_pos c2, mask_eq, if_pos ⟨c1, c2⟩]
        simp only [Option.bind_some]
        rw [if_pos (by omega), and_U, shl_U, or_U, ofInt_U, ofInt_U, ofInt_U, ofInt_U]
        exact ih' _
      · rw [if_pos c1, if_neg c2, if_neg (by omega)]; exact ih' _
    · rw [if_neg c1, if_neg (by omega)]; exact ih' _
theorem pack_eq (l : List S72) (hl : l.length ≤ 4611686018427387904) (k : Nat) (hk : l.length + 1 ≤ k) : word_Pack.f k l = some (U (l.foldl step 0#32)) := by
  have h0 : U 0#32 = 0 := rfl
  have := pack_loop l hl l.length k 0 0#32 (by omega) hk
  rw [h0] at this
  unfold word_Pack.f
  simpa using this
/-- Does a field say that bit j is one? -/
def says (f : S72) (j : Nat) : Bool := decide (0 ≤ f.f0) && (decide (f.f0 ≤ j) && (decide ((j : Int) - f.f0 < f.f1) && (BitVec.ofInt 32 f.f2).getLsbD (j - f.f0.toNat)))
theorem step_bit (a : BitVec 32) (f : S72) (j : Nat) (hj : j < 32) : (step a f).getLsbD j = (a.getLsbD j || says f j) := by
  unfold step says
  by_cases c : 0 ≤ f.f0 ∧ f.f0 < 32
  · rw [if_pos c, BitVec.getLsbD_or, BitVec.getLsbD_shiftLeft, BitVec.getLsbD_and, maskB_bit, decide_eq_true hj, decide_eq_true c.1]
    obtain ⟨m, hm⟩ : ∃ m : Nat, f.f0 = m := ⟨f.f0.toNat, by omega⟩
    rw [hm]
    by_cases d : m ≤ j
    · have a1 : ¬ j < m := by omega
      have a2 : ((m : Nat) : Int) ≤ (j : Int) := by omega
      have a3 : j - m < 32 := by omega
      have a4 : ((j - m : Nat) : Int) = (j : Int) - (m : Int) := by omega
      rw [Int.toNat_natCast, decide_eq_false a1, decide_eq_true a2, decide_eq_true a3, a4]
      simp [Bool.and_comm]
    · have a1 : j < m := by omega
      have a2 : ¬ ((m : Nat) : Int) ≤ (j : Int) := by omega
      rw [Int.toNat_natCast, decide_eq_true a1, decide_eq_false a2]
      simp
  · rw [if_neg c]
    by_cases d : 0 ≤ f.f0
    · have a2 : ¬ f.f0 ≤ (j : Int) := by omega
      rw [decide_eq_false a2]; simp
    · rw [decide_eq_false d]; simp
theorem fold_bit (l : List S72) (j : Nat) (hj : j < 32) : ∀ a : BitVec 32, (l.foldl step a).getLsbD j = (a.getLsbD j || l.any (says · j)) := by
  induction l with
  | nil => intro a; simp
  | cons f l ih => intro a; rw [List.foldl_cons, ih, step_bit a f j hj, List.any_cons, Bool.or_assoc]

def fld (lo n : Nat) (v : BitVec 32) : S72 := ⟨(lo : Int), (n : Int), U v⟩
theorem says_in (lo n : Nat) (v : BitVec 32) (j : Nat) (h0 : lo ≤ j) (h1 : j < lo + n) : says (fld lo n v) j = v.getLsbD (j - lo) := by
  unfold says fld
  simp only [ofInt_U, Int.toNat_natCast]
  rw [decide_eq_true (show (0 : Int) ≤ (lo : Int) by omega), decide_eq_true (show (lo : Int) ≤ (j : Int) by omega), decide_eq_true (show (j : Int) - (lo : Int) < (n : Int) by omega)]
  simp
theorem says_out (lo n : Nat) (v : BitVec 32) (j : Nat) (h : j < lo ∨ lo + n ≤ j) : says (fld lo n v) j = false := by
  unfold says fld
  simp only [ofInt_U, Int.toNat_natCast]
  by_cases c : j < lo
  · rw [decide_eq_false (show ¬ (lo : Int) ≤ (j : Int) by omega)]; simp
  · rw [decide_eq_false (show ¬ (j : Int) - (lo : Int) < (n : Int) by omega)]; simp
def six (a b c d e g : BitVec 32) : List S72 := [fld 0 7 a, fld 7 5 b, fld 12 3 c, fld 15 5 d, fld 20 5 e, fld 25 7 g]
theorem six_bit (a b c d e g : BitVec 32) (j : Nat) (hj : j < 32) : ((six a b c d e g).foldl step 0#32).getLsbD j =
    (if j < 7 then a.getLsbD j else if j < 12 then b.getLsbD (j - 7) else if j < 15 then c.getLsbD (j - 12) else if j < 20 then d.getLsbD (j - 15) else if j < 25 then e.getLsbD (j - 20) else g.getLsbD (j - 25)) := by
  rw [fold_bit _ j hj]
  simp only [six, List.any_cons, List.any_nil]
  by_cases c1 : j < 7
  · rw [if_pos c1, says_in 0 7 a j (by omega) (by omega), says_out 7 5 b j (by omega), says_out 12 3 c j (by omega), says_out 15 5 d j (by omega), says_out 20 5 e j (by omega), says_out 25 7 g j (by omega)]; simp
  rw [if_neg c1]
  by_cases c2 : j < 12
  · rw [if_pos c2, says_out 0 7 a j (by omega), says_in 7 5 b j (by omega) (by omega), says_out 12 3 c j (by omega), says_out 15 5 d j (by omega), says_out 20 5 e j (by omega), says_out 25 7 g j (by omega)]; simp
  rw [if_neg c2]
  by_cases c3 : j < 15
  · rw [if_pos c3, says_out 0 7 a j (by omega), says_out 7 5 b j (by omega), says_in 12 3 c j (by omega) (by omega), says_out 15 5 d j (by omega), says_out 20 5 e j (by omega), says_out 25 7 g j (by omega)]; simp
  rw [if_neg c3]
  by_cases c4 : j < 20
  · rw [if_pos c4, says_out 0 7 a j (by omega), says_out 7 5 b j (by omega), says_out 12 3 c j (by omega), says_in 15 5 d j (by omega) (by omega), says_out 20 5 e j (by omega), says_out 25 7 g j (by omega)]; simp
  rw [if_neg c4]
  by_cases c5 : j < 25
  · rw [if_pos c5, says_out 0 7 a j (by omega), says_out 7 5 b j (by omega), says_out 12 3 c j (by omega), says_out 15 5 d j (by omega), says_in 20 5 e j (by omega) (by omega), says_out 25 7 g j (by omega)]; simp
  rw [if_neg c5, says_out 0 7 a j (by omega), says_out 7 5 b j (by omega), says_out 12 3 c j (by omega), says_out 15 5 d j (by omega), says_out 20 5 e j (by omega), says_in 25 7 g j (by omega) (by omega)]; simp
theorem join_eq (a b c d e g : BitVec 32) (k : Nat) (hk : 8 ≤ k) : enc_Join.f k (U a) (U b) (U c) (U d) (U e) (U g) = some (U ((six a b c d e g).foldl step 0#32)) := by
  have := pack_eq (six a b c d e g) (by simp [six]) k (by simp [six]; omega)
  unfold enc_Join.f
  have e : ([(⟨0, 7, U a⟩ : S72), (⟨7, 5, U b⟩ : S72), (⟨12, 3, U c⟩ : S72), (⟨15, 5, U d⟩ : S72), (⟨20, 5, U e⟩ : S72), (⟨25, 7, U g⟩ : S72)] : List S72) = six a b c d e g := rfl
  rw [e, this, Option.bind_some]
theorem split_eq (w : BitVec 32) : enc_Split.f (U w) = some (U (bitsB w 0 7), U (bitsB w 7 5), U (bitsB w 12 3), U (bitsB w 15 5), U (bitsB w 20 5), U (bitsB w 25 7)) := by
  unfold enc_Split.f
  simp only [bits_eq, Option.bind_some]

end Pk
theorem first_true : corrallaw2_first.f 500 = some true := by decide +kernel
theorem known_five (f : Int) : known f = true ↔ f ∈ five := by
  unfold known five
  simp
theorem imm_none (f : Int) (h : ¬ f ∈ five) (w : BitVec 32) : immB f w = 0#32 := by
  have : f ≠ 73 ∧ f ≠ 83 ∧ f ≠ 66 ∧ f ≠ 85 ∧ f ≠ 74 := by
    unfold five at h
    simp only [List.mem_cons, List.not_mem_nil, or_false] at h
    omega
  obtain ⟨h1, h2, h3, h4, h5⟩ := this
  unfold immB signB ext
  simp [h1, h2, h3, h4, h5]
theorem m20 (w : BitVec 32) : U w * (1048576 : Int) % (4294967296 : Int) = U (w <<< 20) := by rw [mod_U, show (1048576 : Int) = 2 ^ 20 by decide, mul_pow, ofInt_U]
theorem m12 (w : BitVec 32) : U w * (4096 : Int) % (4294967296 : Int) = U (w <<< 12) := by rw [mod_U, show (4096 : Int) = 2 ^ 12 by decide, mul_pow, ofInt_U]
theorem m11 (w : BitVec 32) : U w * (2048 : Int) % (4294967296 : Int) = U (w <<< 11) := by rw [mod_U, show (2048 : Int) = 2 ^ 11 by decide, mul_pow, ofInt_U]
theorem m5 (w : BitVec 32) : U w * (32 : Int) % (4294967296 : Int) = U (w <<< 5) := by rw [mod_U, show (32 : Int) = 2 ^ 5 by decide, mul_pow, ofInt_U]
theorem m1 (w : BitVec 32) : U w * (2 : Int) % (4294967296 : Int) = U (w <<< 1) := by rw [mod_U, show (2 : Int) = 2 ^ 1 by decide, mul_pow, ofInt_U]
theorem d20 (w : BitVec 32) : U w / (1048576 : Int) = U (w >>> 20) := by rw [show (1048576 : Int) = 2 ^ 20 by decide, div_U]
theorem d12 (w : BitVec 32) : U w / (4096 : Int) = U (w >>> 12) := by rw [show (4096 : Int) = 2 ^ 12 by decide, div_U]
theorem d11 (w : BitVec 32) : U w / (2048 : Int) = U (w >>> 11) := by rw [show (2048 : Int) = 2 ^ 11 by decide, div_U]
theorem d5 (w : BitVec 32) : U w / (32 : Int) = U (w >>> 5) := by rw [show (32 : Int) = 2 ^ 5 by decide, div_U]
theorem d1 (w : BitVec 32) : U w / (2 : Int) = U (w >>> 1) := by rw [show (2 : Int) = 2 ^ 1 by decide, div_U]
theorem d7 (w : BitVec 32) : U w / (128 : Int) = U (w >>> 7) := by rw [show (128 : Int) = 2 ^ 7 by decide, div_U]
theorem d15 (w : BitVec 32) : U w / (32768 : Int) = U (w >>> 15) := by rw [show (32768 : Int) = 2 ^ 15 by decide, div_U]
theorem d25 (w : BitVec 32) : U w / (33554432 : Int) = U (w >>> 25) := by rw [show (33554432 : Int) = 2 ^ 25 by decide, div_U]
theorem rb (w : BitVec 32) (k : Nat) (hk : 1 ≤ k) (lo n : Nat) (hl : lo ≤ 31) (hn : 1 ≤ n) (hn2 : n ≤ 32) : corralref1_Bits.f k (U w) (lo : Int) (n : Int) = some (U (bitsB w (lo : Int) (n : Int))) :=
  refBits_eq w lo n (by omega) (by omega) (by omega) (by omega) k hk
theorem refImm_eq (f : Int) (w : BitVec 32) (k : Nat) (hk : 1 ≤ k) : corralref1_Imm.f k f (U w) = some (U (immB f w)) := by
  have z : U 0#32 = 0 := rfl
  unfold corralref1_Imm.f
  by_cases h1 : f = 73
  · subst h1
    rw [if_pos rfl, show corralref1_Bits.f k (U w) 20 12 = _ from rb w k hk 20 12 (by decide) (by decide) (by decide), Option.bind_some, refSign_eq, Option.bind_some]
    simp [immB, raw, pcs, ext, moved]
  rw [if_neg h1]
  by_cases h2 : f = 83
  · subst h2
    rw [if_pos rfl, show corralref1_Bits.f k (U w) 25 7 = _ from rb w k hk 25 7 (by decide) (by decide) (by decide), show corralref1_Bits.f k (U w) 7 5 = _ from rb w k hk 7 5 (by decide) (by decide) (by decide)]
    simp only [Option.bind_some, m5, or_U, ofInt_U, refSign_eq]
    simp [immB, raw, pcs, ext, moved]
  rw [if_neg h2]
  by_cases h3 : f = 66
  · subst h3
    rw [if_pos rfl, show corralref1_Bits.f k (U w) 31 1 = _ from rb w k hk 31 1 (by decide) (by decide) (by decide), show corralref1_Bits.f k (U w) 7 1 = _ from rb w k hk 7 1 (by decide) (by decide) (by decide), show corralref1_Bits.f k (U w) 25 6 = _ from rb w k hk 25 6 (by decide) (by decide) (by decide), show corralref1_Bits.f k (U w) 8 4 = _ from rb w k hk 8 4 (by decide) (by decide) (by decide)]
    simp only [Option.bind_some, m12, m11, m5, m1, or_U, ofInt_U, refSign_eq]
    simp [immB, raw, pcs, ext, moved]
  rw [if_neg h3]
  by_cases h4 : f = 85
  · subst h4
    rw [if_pos rfl, show corralref1_Bits.f k (U w) 12 20 = _ from rb w k hk 12 20 (by decide) (by decide) (by decide)]
    simp only [Option.bind_some, m12]
    simp [immB, raw, pcs, ext, moved, signB]
  rw [if_neg h4]
  by_cases h5 : f = 74
  · subst h5
    rw [if_pos rfl, show corralref1_Bits.f k (U w) 31 1 = _ from rb w k hk 31 1 (by decide) (by decide) (by decide), show corralref1_Bits.f k (U w) 12 8 = _ from rb w k hk 12 8 (by decide) (by decide) (by decide), show corralref1_Bits.f k (U w) 20 1 = _ from rb w k hk 20 1 (by decide) (by decide) (by decide), show corralref1_Bits.f k (U w) 21 10 = _ from rb w k hk 21 10 (by decide) (by decide) (by decide)]
    simp only [Option.bind_some, m20, m12, m11, m1, or_U, ofInt_U, refSign_eq]
    simp [immB, raw, pcs, ext, moved]
  rw [if_neg h5, imm_none f (by unfold five; simp [h1, h2, h3, h4, h5]), z]
theorem pm (v : BitVec 32) (k : Nat) (hk : 1 ≤ k) (a n lo : Nat) (hl : lo ≤ 31) (hn : 1 ≤ n) (hn2 : n ≤ 32) : corralref1_Place.f k (U (v >>> a)) (lo : Int) (n : Int) = some (U (moved v a n lo)) := place_mv v a n lo hl hn hn2 k hk
theorem refLay_eq (f : Int) (v : BitVec 32) (k : Nat) (hk : 1 ≤ k) :
    corralref1_Lay.f k f (U v) = (if f ∈ five then (if U (immB f (layB f v)) = U v then some (U (layB f v), true) else some (0, false)) else some (0, false)) := by
  unfold corralref1_Lay.f
  by_cases h1 : f = 73
  · subst h1
    have p1 : corralref1_Place.f k (U v) 20 12 = some (U (moved v 0 12 20)) := by have := pm v k hk 0 12 20 (by decide) (by decide) (by decide); rw [shr0] at this; exact this
    rw [if_pos rfl, if_pos (by decide), p1, Option.bind_some, refImm_eq _ _ k hk, Option.bind_some]
    have e : layB 73 v = moved v 0 12 20 := by simp [layB, pcs, turn]
    rw [e]
  rw [if_neg h1]
  by_cases h2 : f = 83
  · subst h2
    have p1 : corralref1_Place.f k (U (v >>> 5)) 25 7 = some (U (moved v 5 7 25)) := pm v k hk 5 7 25 (by decide) (by decide) (by decide)
    have p2 : corralref1_Place.f k (U v) 7 5 = some (U (moved v 0 5 7)) := by have := pm v k hk 0 5 7 (by decide) (by decide) (by decide); rw [shr0] at this; exact this
    have e : layB 83 v = moved v 5 7 25 ||| moved v 0 5 7 := by simp [layB, pcs, turn]
    rw [if_pos rfl, if_pos (by decide), d5, p1, p2]
    simp only [Option.bind_some, or_U, ofInt_U, refImm_eq _ _ k hk, e]
  rw [if_neg h2]
  by_cases h3 : f = 66
  · subst h3
    have p1 : corralref1_Place.f k (U (v >>> 12)) 31 1 = some (U (moved v 12 1 31)) := pm v k hk 12 1 31 (by decide) (by decide) (by decide)
    have p2 : corralref1_Place.f k (U (v >>> 11)) 7 1 = some (U (moved v 11 1 7)) := pm v k hk 11 1 7 (by decide) (by decide) (by decide)
    have p3 : corralref1_Place.f k (U (v >>> 5)) 25 6 = some (U (moved v 5 6 25)) := pm v k hk 5 6 25 (by decide) (by decide) (by decide)
    have p4 : corralref1_Place.f k (U (v >>> 1)) 8 4 = some (U (moved v 1 4 8)) := pm v k hk 1 4 8 (by decide) (by decide) (by decide)
    have e : layB 66 v = moved v 12 1 31 ||| moved v 11 1 7 ||| moved v 5 6 25 ||| moved v 1 4 8 := by simp [layB, pcs, turn]
    rw [if_pos rfl, if_pos (by decide), d12, d11, d5, d1, p1, p2, p3, p4]
    simp only [Option.bind_some, or_U, ofInt_U, refImm_eq _ _ k hk, e]
  rw [if_neg h3]
  by_cases h4 : f = 85
  · subst h4
    have p1 : corralref1_Place.f k (U (v >>> 12)) 12 20 = some (U (moved v 12 20 12)) := pm v k hk 12 20 12 (by decide) (by decide) (by decide)
    have e : layB 85 v = moved v 12 20 12 := by simp [layB, pcs, turn]
    rw [if_pos rfl, if_pos (by decide), d12, p1, Option.bind_some, refImm_eq _ _ k hk, Option.bind_some, e]
  rw [if_neg h4]
  by_cases h5 : f = 74
  · subst h5
    have p1 : corralref1_Place.f k (U (v >>> 20)) 31 1 = some (U (moved v 20 1 31)) := pm v k hk 20 1 31 (by decide) (by decide) (by decide)
    have p2 : corralref1_Place.f k (U (v >>> 12)) 12 8 = some (U (moved v 12 8 12)) := pm v k hk 12 8 12 (by decide) (by decide) (by decide)
    have p3 : corralref1_Place.f k (U (v >>> 11)) 20 1 = some (U (moved v 11 1 20)) := pm v k hk 11 1 20 (by decide) (by decide) (by decide)
    have p4 : corralref1_Place.f k (U (v >>> 1)) 21 10 = some (U (moved v 1 10 21)) := pm v k hk 1 10 21 (by decide) (by decide) (by decide)
    have e : layB 74 v = moved v 20 1 31 ||| moved v 12 8 12 ||| moved v 11 1 20 ||| moved v 1 10 21 := by simp [layB, pcs, turn]
    rw [if_pos rfl, if_pos (by decide), d20, d12, d11, d1, p1, p2, p3, p4]
    simp only [Option.bind_some, or_U, ofInt_U, refImm_eq _ _ k hk, e]
  rw [if_neg h5, if_neg (by unfold five; simp [h1, h2, h3, h4, h5])]
theorem layAll_eq (f : Int) (v : BitVec 32) (k : Nat) (hk : 10 ≤ k) :
    enc_LayAll.f k f (U v) = (if f ∈ five then (if U (immB f (layB f v)) = U v then some (U (layB f v), true) else some (0, false)) else some (0, false)) := by
  unfold enc_LayAll.f
  by_cases h : f ∈ five
  · rw [if_pos ((known_five f).2 h), if_pos h, lay_eq f h v k hk]
  · rw [if_neg (fun e => h ((known_five f).1 e)), if_neg h]
theorem j0_eq (w v : BitVec 32) (f : Int) (k : Nat) (hk : 10 ≤ k) : corrallaw2_EncSays.j0 (k + 1) (U w) (U v) f true false = some true := by
  simp only [corrallaw2_EncSays.j0]
  rw [if_neg (by decide), layAll_eq f v k hk, refLay_eq f v k (by omega)]
  obtain ⟨p, hp⟩ : ∃ p, (if f ∈ five then (if U (immB f (layB f v)) = U v then some (U (layB f v), true) else some (0, false)) else some ((0 : Int), false)) = some p := by
    split
    · split <;> exact ⟨_, rfl⟩
    · exact ⟨_, rfl⟩
  rw [hp]
  simp only [Option.bind_some, if_true, imm_eq f w k (by omega), refImm_eq f w k (by omega), beq_self_eq_true]
theorem m127 : (127#32) = maskB 7 := by decide
theorem m31 : (31#32) = maskB 5 := by decide
theorem m7 : (7#32) = maskB 3 := by decide
theorem part0 (w : BitVec 32) : bitsB w 0 7 = w &&& maskB 7 := by unfold bitsB; rw [if_neg (by decide)]; simp
theorem partn (w : BitVec 32) (lo n : Nat) : bitsB w (lo : Int) (n : Int) = w >>> lo &&& maskB (n : Int) := by unfold bitsB; rw [if_neg (by omega), Int.toNat_natCast]
theorem part25 (w : BitVec 32) : bitsB w 25 7 = w >>> 25 := by
  apply BitVec.eq_of_getLsbD_eq; intro i hi
  rw [bitsB_bit, BitVec.getLsbD_ushiftRight]
  by_cases c : i < 7
  · rw [decide_eq_true (show (i : Int) < 7 by omega)]; simp
  · rw [decide_eq_false (show ¬ (i : Int) < 7 by omega), BitVec.getLsbD_of_ge w (25 + i) (by omega)]; simp
theorem again (w : BitVec 32) : (Pk.six (bitsB w 0 7) (bitsB w 7 5) (bitsB w 12 3) (bitsB w 15 5) (bitsB w 20 5) (bitsB w 25 7)).foldl Pk.step 0#32 = w := by
  apply BitVec.eq_of_getLsbD_eq; intro j hj
  rw [Pk.six_bit _ _ _ _ _ _ j hj]
  have hb : ∀ (lo n : Nat), lo ≤ j → j < lo + n → (bitsB w (lo : Int) (n : Int)).getLsbD (j - lo) = w.getLsbD j := by
    intro lo n h0 h1
    rw [bitsB_bit, decide_eq_true (show (0 : Int) ≤ (lo : Int) by omega), decide_eq_true (show ((j - lo : Nat) : Int) < (n : Int) by omega), Int.toNat_natCast, show lo + (j - lo) = j by omega]; simp
  by_cases c1 : j < 7
  · rw [if_pos c1]; exact hb 0 7 (by omega) (by omega)
  rw [if_neg c1]
  by_cases c2 : j < 12
  · rw [if_pos c2]; exact hb 7 5 (by omega) (by omega)
  rw [if_neg c2]
  by_cases c3 : j < 15
  · rw [if_pos c3]; exact hb 12 3 (by omega) (by omega)
  rw [if_neg c3]
  by_cases c4 : j < 20
  · rw [if_pos c4]; exact hb 15 5 (by omega) (by omega)
  rw [if_neg c4]
  by_cases c5 : j < 25
  · rw [if_pos c5]; exact hb 20 5 (by omega) (by omega)
  rw [if_neg c5]; exact hb 25 7 (by omega) (by omega)
theorem main (w v : BitVec 32) (f : Int) (k : Nat) (hk : 11 ≤ k) (h : corrallaw2_first.f k = some true) : corrallaw2_EncSays.f k (U w) (U v) f = some true := by
  have e1 : BitVec.ofInt 32 127 = 127#32 := rfl
  have e2 : BitVec.ofInt 32 31 = 31#32 := rfl
  have e3 : BitVec.ofInt 32 7 = 7#32 := rfl
  have q1 : bitsB w 7 5 = w >>> 7 &&& maskB 5 := partn w 7 5
  have q2 : bitsB w 12 3 = w >>> 12 &&& maskB 3 := partn w 12 3
  have q3 : bitsB w 15 5 = w >>> 15 &&& maskB 5 := partn w 15 5
  have q4 : bitsB w 20 5 = w >>> 20 &&& maskB 5 := partn w 20 5
  have ha := again w
  have hj := Pk.join_eq (bitsB w 0 7) (bitsB w 7 5) (bitsB w 12 3) (bitsB w 15 5) (bitsB w 20 5) (bitsB w 25 7) k (by omega)
  rw [ha, part0, q1, q2, q3, q4, part25] at hj
  obtain ⟨k, rfl⟩ : ∃ m, k = m + 1 := ⟨k - 1, by omega⟩
  unfold corrallaw2_EncSays.f
  rw [h, Option.bind_some, if_pos rfl, Pk.split_eq, Option.bind_some]
  simp only [d7, d12, d15, d20, d25, and_U, ofInt_U, e1, e2, e3, m127, m31, m7, part0, q1, q2, q3, q4, part25, if_true, hj, Option.bind_some, bne_self_eq_false]
  exact j0_eq w v f k (by omega)
end EncSaysP
theorem EncSays : corrallaw2_EncSays.Pure := by
  intro a0 a1 a2 h0 h1 h2
  obtain ⟨w, rfl⟩ := wf_u32 h0
  obtain ⟨v, rfl⟩ := wf_u32 h1
  exact ⟨500, EncSaysP.main w v a2 500 (by decide) EncSaysP.first_true⟩

end Go.Proofs.Ytcaohimipkoapaa.Pure
