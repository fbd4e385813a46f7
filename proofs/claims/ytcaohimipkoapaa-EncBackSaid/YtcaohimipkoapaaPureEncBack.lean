/- An immediate that a word has is laid just there, whatever else the word has: for every word and every format. -/
import Derived.Test.YtcaohimipkoapaaQEncBackx2
import Derived.Test.YtcaohimipkoapaaBv
set_option linter.unusedSimpArgs false
set_option linter.unusedVariables false
namespace Go.Proofs.Ytcaohimipkoapaa.Pure
open Go.RowKit Go.Proofs.Ytcaohimipkoapaa.QEncBack Go.Proofs.YtcaohimipkoapaaW.PrintWords Go.Proofs.YtcaohimipkoapaaW.PrintLast Go.Proofs.YtcaohimipkoapaaW.PrintMore Go.Proofs.Ytcaohimipkoapaa.Bv
namespace EncBackP
theorem mask_eq (n : Int) : word_mask.f n = some (U (maskB n)) := by
  unfold word_mask.f maskB
  by_cases h : n ≥ 32
  · rw [if_pos h, if_pos h]; rfl
  · rw [if_neg h, if_neg h, shl_U, mod_U]
    have e1 : BitVec.ofInt 32 1 = 1#32 := rfl
    have e2 : (mx n 0).toNat = n.toNat := by unfold mx; split <;> omega
    congr 2
    rw [e2, e1, Bv.ofInt_sub, ofInt_U, e1]

def bitsB (w : BitVec 32) (lo n : Int) : BitVec 32 := if lo < 0 then 0#32 else (w >>> lo.toNat) &&& maskB n
theorem bitsB_bit (w : BitVec 32) (lo n : Int) (i : Nat) : (bitsB w lo n).getLsbD i = (decide (0 ≤ lo) && (decide ((i : Int) < n) && w.getLsbD (lo.toNat + i))) := by
  unfold bitsB
  by_cases h : lo < 0
  · rw [if_pos h]; have : ¬ 0 ≤ lo := by omega
    simp [this]
  · rw [if_neg h, BitVec.getLsbD_and, maskB_bit, BitVec.getLsbD_ushiftRight]
    have h0 : 0 ≤ lo := by omega
    by_cases hi : i < 32
    · simp [hi, h0, Bool.and_comm]
    · rw [BitVec.getLsbD_of_ge w (lo.toNat + i) (by omega)]; simp
theorem bits_eq (w : BitVec 32) (lo n : Int) : word_Bits.f (U w) lo n = some (U (bitsB w lo n)) := by
  have h0 : (0 : Int) = U 0#32 := rfl
  unfold word_Bits.f
  by_cases h1 : lo < 0
  · rw [if_pos h1]; unfold bitsB; rw [if_pos h1]; rfl
  rw [if_neg h1]
  by_cases h2 : lo ≥ 32
  · rw [if_pos h2]; unfold bitsB; rw [if_neg h1, BitVec.ushiftRight_eq_zero (by omega)]; simp; rfl
  rw [if_neg h2]
  by_cases h3 : n < 1
  · rw [if_pos h3]
    have : bitsB w lo n = 0#32 := by
      apply BitVec.eq_of_getLsbD_eq; intro i hi; rw [bitsB_bit]
      have : ¬ (i : Int) < n := by omega
      simp [this]
    rw [this]; rfl
  rw [if_neg h3, if_pos (by omega)]
  simp only [mask_eq, Option.bind_some, shr_U, and_U, ofInt_U]
  unfold bitsB; rw [if_neg h1]

def signB (w : BitVec 32) (n : Int) : BitVec 32 := if n < 1 then 0#32 else if n ≥ 32 then w else (w <<< (32 - n).toNat).sshiftRight (32 - n).toNat
theorem sign_eq (w : BitVec 32) (n : Int) : word_Sign.f (U w) n = some (U (signB w n)) := by
  unfold word_Sign.f signB
  by_cases h1 : n < 1
  · rw [if_pos h1, if_pos h1]; rfl
  rw [if_neg h1, if_neg h1]
  by_cases h2 : n ≥ 32
  · rw [if_pos h2, if_pos h2]
  rw [if_neg h2, if_neg h2]
  have e : wrap64 (32 - n) = 32 - n := by unfold wrap64; omega
  rw [e, if_pos (by omega), shl_U, ofInt_U, wrap32_U, sar_U _ _ (by omega)]
theorem signB_bit (w : BitVec 32) (n : Int) (h1 : 1 ≤ n) (h2 : n ≤ 32) (i : Nat) (hi : i < 32) : (signB w n).getLsbD i = w.getLsbD (if (i : Int) < n then i else (n - 1).toNat) := by
  unfold signB
  rw [if_neg (by omega)]
  by_cases h : n ≥ 32
  · rw [if_pos h, if_pos (by omega)]
  rw [if_neg h, BitVec.getLsbD_sshiftRight, BitVec.msb_eq_getLsbD_last, BitVec.getLsbD_shiftLeft, BitVec.getLsbD_shiftLeft]
  obtain ⟨m, hm⟩ : ∃ m : Nat, (32 - n).toNat = m := ⟨_, rfl⟩
  rw [hm]
  by_cases c : (i : Int) < n
  · have a1 : m + i < 32 := by omega
    have a2 : m + i - m = i := by omega
    have a3 : ¬ m + i < m := by omega
    have a4 : ¬ 32 ≤ i := by omega
    rw [if_pos c, if_pos a1, decide_eq_true a1, decide_eq_false a3, decide_eq_false a4, a2]
    simp
  · have a1 : ¬ m + i < 32 := by omega
    have a2 : (n - 1).toNat = 32 - 1 - m := by omega
    have a3 : ¬ 32 - 1 < m := by omega
    have a4 : ¬ 32 ≤ i := by omega
    rw [if_neg c, if_neg a1, decide_eq_false a3, decide_eq_false a4, a2]
    simp

/-- The pieces of a format: from a place of the word, how many, at a place of the immediate; and how many bits are extended. -/
def pcs (f : Int) : List (Nat × Nat × Nat) :=
  if f = 73 then [(20, 12, 0)] else if f = 83 then [(25, 7, 5), (7, 5, 0)] else if f = 66 then [(31, 1, 12), (7, 1, 11), (25, 6, 5), (8, 4, 1)] else if f = 85 then [(12, 20, 12)] else if f = 74 then [(31, 1, 20), (12, 8, 12), (20, 1, 11), (21, 10, 1)] else []
def ext (f : Int) : Nat := if f = 73 then 12 else if f = 83 then 12 else if f = 66 then 13 else if f = 85 then 32 else if f = 74 then 21 else 0
def toS (p : Nat × Nat × Nat) : S67 := ⟨p.1, p.2.1, p.2.2⟩
theorem pieces_eq (f : Int) : enc_pieces.f f = some ((pcs f).map toS, (ext f : Int)) := by
  unfold enc_pieces.f pcs ext
  by_cases h1 : f = 73
  · subst h1; rfl
  by_cases h2 : f = 83
  · subst h2; rfl
  by_cases h3 : f = 66
  · subst h3; rfl
  by_cases h4 : f = 85
  · subst h4; rfl
  by_cases h5 : f = 74
  · subst h5; rfl
  simp [h1, h2, h3, h4, h5]
/-- Bits taken from a place on, laid at a place. -/
def moved (w : BitVec 32) (from_ n at_ : Nat) : BitVec 32 := bitsB w (from_ : Int) (n : Int) <<< at_
theorem moved_bit (w : BitVec 32) (from_ n at_ i : Nat) (hi : i < 32) : (moved w from_ n at_).getLsbD i = (decide (at_ ≤ i ∧ i - at_ < n) && w.getLsbD (from_ + (i - at_))) := by
  unfold moved
  rw [BitVec.getLsbD_shiftLeft, bitsB_bit, decide_eq_true hi, decide_eq_true (show (0 : Int) ≤ (from_ : Int) by omega), Int.toNat_natCast]
  by_cases c : at_ ≤ i
  · rw [decide_eq_false (show ¬ i < at_ by omega)]
    by_cases d : i - at_ < n
    · rw [decide_eq_true (show ((i - at_ : Nat) : Int) < (n : Int) by omega), decide_eq_true (show at_ ≤ i ∧ i - at_ < n from ⟨c, d⟩)]; simp
    · rw [decide_eq_false (show ¬ ((i - at_ : Nat) : Int) < (n : Int) by omega), decide_eq_false (show ¬ (at_ ≤ i ∧ i - at_ < n) by omega)]; simp
  · rw [decide_eq_true (show i < at_ by omega), decide_eq_false (show ¬ (at_ ≤ i ∧ i - at_ < n) by omega)]; simp
/-- Which place a bit comes from. -/
def pick (l : List (Nat × Nat × Nat)) (i : Nat) : Option Nat := (l.find? fun p => decide (p.2.2 ≤ i ∧ i - p.2.2 < p.2.1)).map fun p => p.1 + (i - p.2.2)
/-- The bit of that place. -/
def bsel (w : BitVec 32) : Option Nat → Bool
  | none => false
  | some j => w.getLsbD j
def apart : List (Nat × Nat × Nat) → Nat → Bool
  | [], _ => true
  | p :: l, i => (!decide (p.2.2 ≤ i ∧ i - p.2.2 < p.2.1) || (pick l i).isNone) && apart l i
theorem or_bits (w : BitVec 32) (l : List (Nat × Nat × Nat)) (i : Nat) (hi : i < 32) (h : apart l i = true) : ∀ a : BitVec 32,
    (l.foldl (fun a p => a ||| moved w p.1 p.2.1 p.2.2) a).getLsbD i = (a.getLsbD i || bsel w (pick l i)) := by
  induction l with
  | nil => intro a; simp [pick, bsel]
  | cons p l ih =>
    intro a
    simp only [apart, Bool.and_eq_true] at h
    rw [List.foldl_cons, ih h.2, BitVec.getLsbD_or, moved_bit _ _ _ _ _ hi]
    by_cases c : p.2.2 ≤ i ∧ i - p.2.2 < p.2.1
    · have hn : pick l i = none := by
        have := h.1
        rw [decide_eq_true c] at this
        simpa using this
      have hp : pick (p :: l) i = some (p.1 + (i - p.2.2)) := by unfold pick; rw [List.find?_cons_of_pos (by simpa using c)]; rfl
      rw [hn, hp, decide_eq_true c]; simp [bsel]
    · have hp : pick (p :: l) i = pick l i := by unfold pick; rw [List.find?_cons_of_neg (by simpa using c)]
      rw [hp, decide_eq_false c]; simp
theorem rd_S (l : List (Nat × Nat × Nat)) (i : Nat) (h : i < l.length) : rd_T67 (l.map toS) (i : Int) = toS l[i] := by
  unfold rd_T67; simp [h]
theorem wrap_succ (i : Nat) (h : i < 4611686018427387904) : wrap64 ((i : Int) + 1) = ((i + 1 : Nat) : Int) := by unfold wrap64; omega
/-- The bits of an immediate, ahead of the extension. -/
def raw (f : Int) (w : BitVec 32) : BitVec 32 := (pcs f).foldl (fun a p => a ||| moved w p.1 p.2.1 p.2.2) 0#32
def immB (f : Int) (w : BitVec 32) : BitVec 32 := signB (raw f w) (ext f : Int)
theorem pcs_len (f : Int) : (pcs f).length ≤ 4 := by
  unfold pcs; split; decide; split; decide; split; decide; split; decide; split <;> decide
theorem imm_loop (w : BitVec 32) (l : List (Nat × Nat × Nat)) (hl : l.length ≤ 4) (n : Int) (d : Nat) : ∀ (k i : Nat) (a : BitVec 32), i + d = l.length → d + 1 ≤ k →
    enc_Imm.l0 k (U w) n (U a) (l.map toS) (l.length : Int) (i : Int) = some (U (signB ((l.drop i).foldl (fun a p => a ||| moved w p.1 p.2.1 p.2.2) a) n)) := by
  induction d with
  | zero =>
    intro k i a hi hk
    obtain ⟨k, rfl⟩ : ∃ m, k = m + 1 := ⟨k - 1, by omega⟩
    simp only [enc_Imm.l0]
    rw [if_neg (by omega), List.drop_of_length_le (by omega), sign_eq]
    rfl
  | succ d ih =>
    intro k i a hi hk
    obtain ⟨k, rfl⟩ : ∃ m, k = m + 1 := ⟨k - 1, by omega⟩
    have hlt : i < l.length := by omega
    simp only [enc_Imm.l0]
    rw [if_pos (by omega), if_pos (by omega), if_pos (by rw [List.length_map]; omega), rd_S l i hlt, wrap_succ i (by omega), List.drop_eq_getElem_cons hlt, List.foldl_cons]
    have e0 : (toS l[i]).f0 = (l[i].1 : Int) := rfl
    have e1 : (toS l[i]).f1 = (l[i].2.1 : Int) := rfl
    have e2 : (toS l[i]).f2 = (l[i].2.2 : Int) := rfl
    rw [e0, e1, e2, bits_eq, Option.bind_some]
    rw [if_pos (by omega), shl_U, or_U, ofInt_U, ofInt_U, ofInt_U, Int.toNat_natCast]
    exact ih k (i + 1) _ (by omega) (by omega)
theorem imm_eq (f : Int) (w : BitVec 32) (k : Nat) (hk : 5 ≤ k) : enc_Imm.f k f (U w) = some (U (immB f w)) := by
  have h0 : U 0#32 = 0 := rfl
  have := imm_loop w (pcs f) (pcs_len f) (ext f) (pcs f).length k 0 0#32 (by omega) (by have := pcs_len f; omega)
  rw [h0] at this
  unfold enc_Imm.f
  rw [pieces_eq, Option.bind_some, List.length_map]
  simpa [immB, raw] using this
/-- The five formats. -/
def five : List Int := [73, 83, 66, 85, 74]
theorem apart_all : ∀ f ∈ five, ∀ i : Fin 32, apart (pcs f) i.val = true := by decide
theorem ext_all : ∀ f ∈ five, 1 ≤ ext f ∧ ext f ≤ 32 := by decide
/-- Which bit of the word a bit of the immediate is. -/
def src (f : Int) (i : Nat) : Option Nat := pick (pcs f) (if i < ext f then i else ext f - 1)
theorem imm_bit (f : Int) (hf : f ∈ five) (w : BitVec 32) (i : Nat) (hi : i < 32) : (immB f w).getLsbD i = bsel w (src f i) := by
  have he := ext_all f hf
  unfold immB src
  rw [signB_bit _ _ (by omega) (by omega) i hi]
  have e : (if (i : Int) < (ext f : Int) then i else ((ext f : Int) - 1).toNat) = (if i < ext f then i else ext f - 1) := by
    by_cases c : i < ext f
    · rw [if_pos (by omega), if_pos c]
    · rw [if_neg (by omega), if_neg c]; omega
  rw [e]
  have hj : (if i < ext f then i else ext f - 1) < 32 := by split <;> omega
  unfold raw
  rw [or_bits w _ _ hj (apart_all f hf ⟨_, hj⟩)]
  simp

def turn (p : Nat × Nat × Nat) : Nat × Nat × Nat := (p.2.2, p.2.1, p.1)
/-- The word with an immediate's bits. -/
def layB (f : Int) (v : BitVec 32) : BitVec 32 := ((pcs f).map turn).foldl (fun a p => a ||| moved v p.1 p.2.1 p.2.2) 0#32
theorem pcs_pos (f : Int) (hf : f ∈ five) : 0 < (pcs f).length := by
  have : ∀ f ∈ five, 0 < (pcs f).length := by decide
  exact this f hf
theorem lay_loop (f : Int) (hf : f ∈ five) (v : BitVec 32) (d : Nat) : ∀ (k i : Nat) (a : BitVec 32), i + d = (pcs f).length → d + 6 ≤ k →
    enc_Lay.l0 k f (U v) ((pcs f).map toS) (U a) ((pcs f).map toS) ((pcs f).length : Int) (i : Int) =
      (if U (immB f (((pcs f).drop i).foldl (fun a p => a ||| moved v p.2.2 p.2.1 p.1) a)) = U v then some (U (((pcs f).drop i).foldl (fun a p => a ||| moved v p.2.2 p.2.1 p.1) a), true) else some (0, false)) := by
  have hp := pcs_pos f hf
  have hl := pcs_len f
  induction d with
  | zero =>
    intro k i a hi hk
    obtain ⟨k, rfl⟩ : ∃ m, k = m + 1 := ⟨k - 1, by omega⟩
    simp only [enc_Lay.l0, List.length_map]
    rw [if_neg (by omega), if_pos (by omega), List.drop_of_length_le (by omega), imm_eq f a k (by omega)]
    rfl
  | succ d ih =>
    intro k i a hi hk
    obtain ⟨k, rfl⟩ : ∃ m, k = m + 1 := ⟨k - 1, by omega⟩
    have hlt : i < (pcs f).length := by omega
    have ih' := fun a => ih k (i + 1) a (by omega) (by omega)
    simp only [enc_Lay.l0, List.length_map]
    rw [if_pos (by omega), if_pos (by omega), if_pos (by omega), rd_S _ i hlt, wrap_succ i (by omega), List.drop_eq_getElem_cons hlt, List.foldl_cons]
    generalize (pcs f)[i] = p at *
    have e0 : (toS p).f0 = (p.1 : Int) := rfl
    have e1 : (toS p).f1 = (p.2.1 : Int) := rfl
    have e2 : (toS p).f2 = (p.2.2 : Int) := rfl
    rw [e0, e1, e2, bits_eq, Option.bind_some, if_pos (by omega), shl_U, or_U, ofInt_U, ofInt_U, ofInt_U, Int.toNat_natCast]
    exact ih' _
theorem lay_eq (f : Int) (hf : f ∈ five) (v : BitVec 32) (k : Nat) (hk : 10 ≤ k) :
    enc_Lay.f k f (U v) = (if U (immB f (layB f v)) = U v then some (U (layB f v), true) else some (0, false)) := by
  have h0 : U 0#32 = 0 := rfl
  have hl := pcs_len f
  have := lay_loop f hf v (pcs f).length k 0 0#32 (by omega) (by omega)
  rw [h0] at this
  unfold enc_Lay.f
  rw [pieces_eq, Option.bind_some, List.length_map]
  have e : layB f v = (pcs f).foldl (fun a p => a ||| moved v p.2.2 p.2.1 p.1) 0#32 := by
    unfold layB; rw [List.foldl_map]; rfl
  rw [e]
  simpa using this
/-- Which bit of the immediate a bit of the word is. -/
def back (f : Int) (j : Nat) : Option Nat := pick ((pcs f).map turn) j
theorem apart_back : ∀ f ∈ five, ∀ i : Fin 32, apart ((pcs f).map turn) i.val = true := by decide
theorem lay_bit (f : Int) (hf : f ∈ five) (v : BitVec 32) (j : Nat) (hj : j < 32) : (layB f v).getLsbD j = bsel v (back f j) := by
  unfold layB back
  rw [or_bits v _ _ hj (apart_back f hf ⟨_, hj⟩)]
  simp

theorem first_true : corrallaw2_first.f 500 = some true := by decide +kernel
def maskF (f : Int) : BitVec 32 := if f = 73 then 4293918720#32 else if f = 83 then 4261416832#32 else if f = 66 then 4261416832#32 else 4294963200#32
theorem back_ok : ∀ f ∈ five, ∀ j : Fin 32, (match back f j.val with | some i => decide (i < 32) && (src f i == some j.val) && (maskF f).getLsbD j.val | none => !(maskF f).getLsbD j.val) = true := by decide +kernel
theorem src_ok : ∀ f ∈ five, ∀ i : Fin 32, (match src f i.val with | some j => decide (j < 32) && (maskF f).getLsbD j | none => true) = true := by decide +kernel
theorem lay_imm (f : Int) (hf : f ∈ five) (w : BitVec 32) : layB f (immB f w) = w &&& maskF f := by
  apply BitVec.eq_of_getLsbD_eq; intro j hj
  rw [lay_bit f hf _ j hj, BitVec.getLsbD_and]
  have h := back_ok f hf ⟨j, hj⟩
  simp only at h
  cases hb : back f j with
  | none => rw [hb] at h; simp at h; simp [bsel, h]
  | some i =>
    rw [hb] at h
    simp only [Bool.and_eq_true, decide_eq_true_eq, beq_iff_eq] at h
    show (immB f w).getLsbD i = _
    rw [imm_bit f hf w i h.1.1, h.1.2, h.2]; simp [bsel]
theorem imm_mask (f : Int) (hf : f ∈ five) (w : BitVec 32) : immB f (w &&& maskF f) = immB f w := by
  apply BitVec.eq_of_getLsbD_eq; intro i hi
  rw [imm_bit f hf _ i hi, imm_bit f hf _ i hi]
  have h := src_ok f hf ⟨i, hi⟩
  simp only at h
  cases hs : src f i with
  | none => rfl
  | some j =>
    rw [hs] at h
    simp only [Bool.and_eq_true, decide_eq_true_eq] at h
    show (w &&& maskF f).getLsbD j = w.getLsbD j
    rw [BitVec.getLsbD_and, h.2]; simp
theorem imm_rest (f : Int) (hf : f ∈ five) (w : BitVec 32) : immB f (w &&& ~~~ maskF f) = 0#32 := by
  apply BitVec.eq_of_getLsbD_eq; intro i hi
  rw [imm_bit f hf _ i hi]
  have h := src_ok f hf ⟨i, hi⟩
  simp only at h
  cases hs : src f i with
  | none => simp [bsel]
  | some j =>
    rw [hs] at h
    simp only [Bool.and_eq_true, decide_eq_true_eq] at h
    show (w &&& ~~~ maskF f).getLsbD j = _
    rw [BitVec.getLsbD_and, BitVec.getLsbD_not, h.2]; simp
theorem fmt_at (i : Nat) (h : i < 5) : bt (⟨#[73, 83, 66, 85, 74]⟩ : ByteArray) (i : Int) ∈ five ∧ rd ([4293918720, 4261416832, 4261416832, 4294963200, 4294963200] : List Int) (i : Int) = U (maskF (bt (⟨#[73, 83, 66, 85, 74]⟩ : ByteArray) (i : Int))) := by
  have : ∀ j : Fin 5, bt (⟨#[73, 83, 66, 85, 74]⟩ : ByteArray) (j.val : Int) ∈ five ∧ rd ([4293918720, 4261416832, 4261416832, 4294963200, 4294963200] : List Int) (j.val : Int) = U (maskF (bt (⟨#[73, 83, 66, 85, 74]⟩ : ByteArray) (j.val : Int))) := by decide +kernel
  exact this ⟨i, h⟩
theorem fmts_loop (w : BitVec 32) (d : Nat) : ∀ (k i : Nat), i + d = 5 → d + 12 ≤ k → corrallaw2_EncBack.l0 k (U w) true (i : Int) = some true := by
  have z : U 0#32 = 0 := rfl
  induction d with
  | zero =>
    intro k i hi hk
    obtain ⟨k, rfl⟩ : ∃ m, k = m + 1 := ⟨k - 1, by omega⟩
    simp only [corrallaw2_EncBack.l0]
    rw [if_neg (by omega)]
  | succ d ih =>
    intro k i hi hk
    obtain ⟨k, rfl⟩ : ∃ m, k = m + 1 := ⟨k - 1, by omega⟩
    obtain ⟨hf, hm⟩ := fmt_at i (by omega)
    have hk5 : 5 ≤ k := by omega
    simp only [corrallaw2_EncBack.l0]
    rw [if_pos (by omega), if_pos (by omega)]
    simp only [Option.bind_some, hm]
    generalize bt (⟨#[73, 83, 66, 85, 74]⟩ : ByteArray) (i : Int) = f at *
    rw [imm_eq f w k hk5, Option.bind_some, lay_eq f hf _ k (by omega), lay_imm f hf, imm_mask f hf, if_pos rfl, Option.bind_some]
    simp only [and_U, andNot_U, ofInt_U, imm_eq f _ k hk5, imm_mask f hf, imm_rest f hf, Option.bind_some, if_true, z]
    rw [if_pos (by simp; omega), wrap_succ i (by omega)]
    exact ih k (i + 1) (by omega) (by omega)
theorem main (w : BitVec 32) (k : Nat) (hk : 30 ≤ k) (h : corrallaw2_first.f k = some true) : corrallaw2_EncBack.f k (U w) = some true := by
  unfold corrallaw2_EncBack.f
  rw [h, Option.bind_some, if_pos rfl]
  exact fmts_loop w 5 k 0 (by omega) (by omega)
end EncBackP
theorem EncBack : corrallaw2_EncBack.Pure := by
  intro a0 h0
  obtain ⟨w, rfl⟩ := wf_u32 h0
  exact ⟨500, EncBackP.main w 500 (by decide) EncBackP.first_true⟩

end Go.Proofs.Ytcaohimipkoapaa.Pure
