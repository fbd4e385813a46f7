/- A word is its bits, one by one, packed again; a part of a part is a part: for every word, every place and every number of bits. -/
import Derived.Test.YthpaieglgjjbiaaQWordBitsx2
import Derived.Test.YthpaieglgjjbiaaBv
set_option linter.unusedSimpArgs false
namespace Go.Proofs.Ythpaieglgjjbiaa.Pure
open Go.RowKit Go.Proofs.Ythpaieglgjjbiaa.QWordBits Go.Proofs.YthpaieglgjjbiaaW.PrintWords Go.Proofs.YthpaieglgjjbiaaW.PrintLast Go.Proofs.YthpaieglgjjbiaaW.PrintMore Go.Proofs.Ythpaieglgjjbiaa.Bv
namespace WordBitsP
theorem mask_eq (n : Int) : word_mask.f n = some (U (maskB n)) := by
  unfold word_mask.f maskB
  by_cases h : n ≥ 32
  · rw [if_pos h, if_pos h]; rfl
  · rw [if_neg h, if_neg h, shl_U, mod_U]
    have e1 : BitVec.ofInt 32 1 = 1#32 := rfl
    have e2 : (mx n 0).toNat = n.toNat := by unfold mx; split <;> omega
    congr 2
    rw [e2, e1, Bv.ofInt_sub, ofInt_U, e1]
def bitsB (w : BitVec 32) (lo n : Int) : BitVec 32 := if lo < 0 then 0#32 else (w >>> lo.toNat) &&& maskB n
theorem bitsB_bit (w : BitVec 32) (lo n : Int) (i : Nat) : (bitsB w lo n).getLsbD i = (decide (0 ≤ lo) && (decide ((i : Int) < n) && w.getLsbD (lo.toNat + i))) := by
  unfold bitsB
  by_cases h : lo < 0
  · rw [if_pos h]; have : ¬ 0 ≤ lo := by omega
    simp [this]
  · rw [if_neg h, BitVec.getLsbD_and, maskB_bit, BitVec.getLsbD_ushiftRight]
    have h0 : 0 ≤ lo := by omega
    by_cases hi : i < 32
    · simp [hi, h0, Bool.and_comm]
    · rw [BitVec.getLsbD_of_ge w (lo.toNat + i) (by omega)]; simp
theorem bits_eq (w : BitVec 32) (lo n : Int) : word_Bits.f (U w) lo n = some (U (bitsB w lo n)) := by
  have h0 : (0 : Int) = U 0#32 := rfl
  unfold word_Bits.f
  by_cases h1 : lo < 0
  · rw [if_pos h1]; unfold bitsB; rw [if_pos h1]; rfl
  rw [if_neg h1]
  by_cases h2 : lo ≥ 32
  · rw [if_pos h2]; unfold bitsB; rw [if_neg h1, BitVec.ushiftRight_eq_zero (by omega)]; simp; rfl
  rw [if_neg h2]
  by_cases h3 : n < 1
  · rw [if_pos h3]
    have : bitsB w lo n = 0#32 := by
      apply BitVec.eq_of_getLsbD_eq; intro i hi; rw [bitsB_bit]
      have : ¬ (i : Int) < n := by omega
      simp [this]
    rw [this]; rfl
  rw [if_neg h3, if_pos (by omega)]
  simp only [mask_eq, Option.bind_some, shr_U, and_U, ofInt_U]
  unfold bitsB; rw [if_neg h1]
theorem left_eq (w : BitVec 32) (n : Int) : word_Left.f (U w) n = some (U (w <<< (n % 32).toNat)) := by
  unfold word_Left.f
  rw [and31, if_pos (by omega), shl_U, ofInt_U]
theorem right_eq (w : BitVec 32) (n : Int) : word_Right.f (U w) n false = some (U (w >>> (n % 32).toNat)) := by
  unfold word_Right.f
  rw [if_neg (by decide), and31, if_pos (by omega), shr_U]
theorem sar_eq (w : BitVec 32) (n : Int) : word_Right.f (U w) n true = some (U (w.sshiftRight (n % 32).toNat)) := by
  unfold word_Right.f
  rw [if_pos rfl, and31, if_pos (by omega), wrap32_U, sar_U _ _ (by omega)]
def signB (w : BitVec 32) (n : Int) : BitVec 32 := if n < 1 then 0#32 else if n ≥ 32 then w else (w <<< (32 - n).toNat).sshiftRight (32 - n).toNat
theorem sign_eq (w : BitVec 32) (n : Int) : word_Sign.f (U w) n = some (U (signB w n)) := by
  unfold word_Sign.f signB
  by_cases h1 : n < 1
  · rw [if_pos h1, if_pos h1]; rfl
  rw [if_neg h1, if_neg h1]
  by_cases h2 : n ≥ 32
  · rw [if_pos h2, if_pos h2]
  rw [if_neg h2, if_neg h2]
  have e : wrap64 (32 - n) = 32 - n := by unfold wrap64; omega
  rw [e, if_pos (by omega), shl_U, ofInt_U, wrap32_U, sar_U _ _ (by omega)]
theorem signB_bit (w : BitVec 32) (n : Int) (h1 : 1 ≤ n) (h2 : n ≤ 32) (i : Nat) (hi : i < 32) : (signB w n).getLsbD i = w.getLsbD (if (i : Int) < n then i else (n - 1).toNat) := by
  unfold signB
  rw [if_neg (by omega)]
  by_cases h : n ≥ 32
  · rw [if_pos h, if_pos (by omega)]
  rw [if_neg h, BitVec.getLsbD_sshiftRight, BitVec.msb_eq_getLsbD_last, BitVec.getLsbD_shiftLeft, BitVec.getLsbD_shiftLeft]
  obtain ⟨m, hm⟩ : ∃ m : Nat, (32 - n).toNat = m := ⟨_, rfl⟩
  rw [hm]
  by_cases c : (i : Int) < n
  · have a1 : m + i < 32 := by omega
    have a2 : m + i - m = i := by omega
    have a3 : ¬ m + i < m := by omega
    have a4 : ¬ 32 ≤ i := by omega
    rw [if_pos c, if_pos a1, decide_eq_true a1, decide_eq_false a3, decide_eq_false a4, a2]
    simp
  · have a1 : ¬ m + i < 32 := by omega
    have a2 : (n - 1).toNat = 32 - 1 - m := by omega
    have a3 : ¬ 32 - 1 < m := by omega
    have a4 : ¬ 32 ≤ i := by omega
    rw [if_neg c, if_neg a1, decide_eq_false a3, decide_eq_false a4, a2]
    simp

/-- One field laid. -/
def step (a : BitVec 32) (f : S37) : BitVec 32 := if 0 ≤ f.f0 ∧ f.f0 < 32 then a ||| ((BitVec.ofInt 32 f.f2 &&& maskB f.f1) <<< f.f0.toNat) else a
theorem rd_at (l : List S37) (i : Nat) (h : i < l.length) : rd_T37 l (i : Int) = l[i] := by
  unfold rd_T37; simp [h]
theorem wrap_succ (i : Nat) (h : i < 4611686018427387904) : wrap64 ((i : Int) + 1) = ((i + 1 : Nat) : Int) := by unfold wrap64; omega
theorem pack_loop (l : List S37) (hl : l.length ≤ 4611686018427387904) (d : Nat) : ∀ (k i : Nat) (a : BitVec 32), i + d = l.length → d + 1 ≤ k →
    word_Pack.l0 k (U a) l (l.length : Int) (i : Int) = some (U ((l.drop i).foldl step a)) := by
  induction d with
  | zero =>
    intro k i a hi hk
    obtain ⟨k, rfl⟩ : ∃ m, k = m + 1 := ⟨k - 1, by omega⟩
    simp only [word_Pack.l0]
    rw [if_neg (by omega), List.drop_of_length_le (by omega)]
    rfl
  | succ d ih =>
    intro k i a hi hk
    obtain ⟨k, rfl⟩ : ∃ m, k = m + 1 := ⟨k - 1, by omega⟩
    have hlt : i < l.length := by omega
    have ih' := fun a => ih k (i + 1) a (by omega) (by omega)
    simp only [word_Pack.l0]
    rw [if_pos (by omega), if_pos (by omega), if_pos (by omega), rd_at l i hlt, wrap_succ i (by omega), List.drop_eq_getElem_cons hlt, List.foldl_cons]
    generalize l[i] = f
    unfold step
    by_cases c1 : f.f0 ≥ 0
    · by_cases c2 : f.f0 < 32
      · rw [if_pos c1, if_pos c2, mask_eq, if_pos ⟨c1, c2⟩]
        simp only [Option.bind_some]
        rw [if_pos (by omega), and_U, shl_U, or_U, ofInt_U, ofInt_U, ofInt_U, ofInt_U]
        exact ih' _
      · rw [if_pos c1, if_neg c2, if_neg (by omega)]; exact ih' _
    · rw [if_neg c1, if_neg (by omega)]; exact ih' _
theorem pack_eq (l : List S37) (hl : l.length ≤ 4611686018427387904) (k : Nat) (hk : l.length + 1 ≤ k) : word_Pack.f k l = some (U (l.foldl step 0#32)) := by
  have h0 : U 0#32 = 0 := rfl
  have := pack_loop l hl l.length k 0 0#32 (by omega) hk
  rw [h0] at this
  unfold word_Pack.f
  simpa using this
/-- Does a field say that bit j is one? -/
def says (f : S37) (j : Nat) : Bool := decide (0 ≤ f.f0) && (decide (f.f0 ≤ j) && (decide ((j : Int) - f.f0 < f.f1) && (BitVec.ofInt 32 f.f2).getLsbD (j - f.f0.toNat)))
theorem step_bit (a : BitVec 32) (f : S37) (j : Nat) (hj : j < 32) : (step a f).getLsbD j = (a.getLsbD j || says f j) := by
  unfold step says
  by_cases c : 0 ≤ f.f0 ∧ f.f0 < 32
  · rw [if_pos c, BitVec.getLsbD_or, BitVec.getLsbD_shiftLeft, BitVec.getLsbD_and, maskB_bit, decide_eq_true hj, decide_eq_true c.1]
    obtain ⟨m, hm⟩ : ∃ m : Nat, f.f0 = m := ⟨f.f0.toNat, by omega⟩
    rw [hm]
    by_cases d : m ≤ j
    · have a1 : ¬ j < m := by omega
      have a2 : ((m : Nat) : Int) ≤ (j : Int) := by omega
      have a3 : j - m < 32 := by omega
      have a4 : ((j - m : Nat) : Int) = (j : Int) - (m : Int) := by omega
      rw [Int.toNat_natCast, decide_eq_false a1, decide_eq_true a2, decide_eq_true a3, a4]
      simp [Bool.and_comm]
    · have a1 : j < m := by omega
      have a2 : ¬ ((m : Nat) : Int) ≤ (j : Int) := by omega
      rw [Int.toNat_natCast, decide_eq_true a1, decide_eq_false a2]
      simp
  · rw [if_neg c]
    by_cases d : 0 ≤ f.f0
    · have a2 : ¬ f.f0 ≤ (j : Int) := by omega
      rw [decide_eq_false a2]; simp
    · rw [decide_eq_false d]; simp
theorem fold_bit (l : List S37) (j : Nat) (hj : j < 32) : ∀ a : BitVec 32, (l.foldl step a).getLsbD j = (a.getLsbD j || l.any (says · j)) := by
  induction l with
  | nil => intro a; simp
  | cons f l ih => intro a; rw [List.foldl_cons, ih, step_bit a f j hj, List.any_cons, Bool.or_assoc]

theorem first_true : corrallaw1_first.f 100 = some true := by decide +kernel
/-- One bit of a word, as a field. -/
def bitF (w : BitVec 32) (j : Nat) : S37 := ⟨(j : Int), 1, U (bitsB w (j : Int) 1)⟩
theorem says_bitF (w : BitVec 32) (i j : Nat) : says (bitF w i) j = (decide (i = j) && w.getLsbD j) := by
  unfold says bitF
  simp only [ofInt_U, bitsB_bit, Int.toNat_natCast]
  by_cases c : i = j
  · subst c
    have a1 : (0 : Int) ≤ (i : Int) := by omega
    have a2 : (i : Int) - (i : Int) < 1 := by omega
    have a3 : i - i = 0 := by omega
    have a4 : ((0 : Nat) : Int) < 1 := by decide
    rw [decide_eq_true a1, decide_eq_true (Int.le_refl (i : Int)), decide_eq_true a2, a3, decide_eq_true a4]
    simp
  · by_cases d : i ≤ j
    · have a2 : ¬ (j : Int) - (i : Int) < 1 := by omega
      rw [decide_eq_false a2, decide_eq_false c]; simp
    · have a2 : ¬ (i : Int) ≤ (j : Int) := by omega
      rw [decide_eq_false a2, decide_eq_false c]; simp
def allF (w : BitVec 32) (n : Nat) : List S37 := (List.range n).reverse.map (bitF w)
theorem allF_succ (w : BitVec 32) (n : Nat) : allF w (n + 1) = bitF w n :: allF w n := by
  unfold allF; rw [List.range_succ, List.reverse_append]; rfl
theorem allF_len (w : BitVec 32) (n : Nat) : (allF w n).length = n := by unfold allF; simp
theorem allF_any (w : BitVec 32) (n j : Nat) : (allF w n).any (says · j) = (decide (j < n) && w.getLsbD j) := by
  induction n with
  | zero => simp [allF]
  | succ n ih =>
    rw [allF_succ, List.any_cons, ih, says_bitF]
    by_cases c : n = j
    · subst c
      have a1 : ¬ n < n := by omega
      have a2 : n < n + 1 := by omega
      rw [decide_eq_false a1, decide_eq_true a2]; simp
    · by_cases d : j < n
      · have a2 : j < n + 1 := by omega
        rw [decide_eq_true d, decide_eq_true a2, decide_eq_false c]; simp
      · have a2 : ¬ j < n + 1 := by omega
        rw [decide_eq_false d, decide_eq_false a2, decide_eq_false c]; simp
theorem all_word (w : BitVec 32) : (allF w 32).foldl step 0#32 = w := by
  apply BitVec.eq_of_getLsbD_eq; intro j hj
  rw [fold_bit _ j hj, allF_any, decide_eq_true hj]; simp
theorem part_part (w : BitVec 32) (lo n at_ k : Int) (h1 : 0 ≤ lo) (h2 : 0 ≤ at_) (h : at_ + k ≤ n) : bitsB (bitsB w lo n) at_ k = bitsB w (lo + at_) k := by
  apply BitVec.eq_of_getLsbD_eq; intro i hi
  have a3 : 0 ≤ lo + at_ := by omega
  have e : lo.toNat + (at_.toNat + i) = (lo + at_).toNat + i := by omega
  rw [bitsB_bit, bitsB_bit, bitsB_bit, decide_eq_true h1, decide_eq_true h2, decide_eq_true a3, e]
  by_cases c : (i : Int) < k
  · have a4 : ((at_.toNat + i : Nat) : Int) < n := by omega
    rw [decide_eq_true a4]; simp
  · rw [decide_eq_false c]; simp
theorem cut (w : BitVec 32) (lo n : Int) (h1 : 0 ≤ lo) (h2 : 1 ≤ n) (h3 : lo + n < 32) : bitsB w lo n = w <<< ((32 - lo - n) % 32).toNat >>> ((32 - n) % 32).toNat := by
  apply BitVec.eq_of_getLsbD_eq; intro i hi
  have e1 : ((32 - lo - n) % 32).toNat = (32 - lo - n).toNat := by omega
  have e2 : ((32 - n) % 32).toNat = (32 - n).toNat := by omega
  rw [e1, e2, bitsB_bit, BitVec.getLsbD_ushiftRight, BitVec.getLsbD_shiftLeft, decide_eq_true h1]
  obtain ⟨p, hp⟩ : ∃ p : Nat, (32 - lo - n).toNat = p := ⟨_, rfl⟩
  obtain ⟨q, hq⟩ : ∃ q : Nat, (32 - n).toNat = q := ⟨_, rfl⟩
  obtain ⟨m, hm⟩ : ∃ m : Nat, lo.toNat = m := ⟨_, rfl⟩
  rw [hp, hq, hm]
  by_cases c : (i : Int) < n
  · have a1 : q + i < 32 := by omega
    have a2 : ¬ q + i < p := by omega
    have a3 : q + i - p = m + i := by omega
    rw [decide_eq_true c, decide_eq_true a1, decide_eq_false a2, a3]; simp
  · have a1 : ¬ q + i < 32 := by omega
    rw [decide_eq_false c, decide_eq_false a1]; simp
theorem pack_nil (k : Nat) (hk : 1 ≤ k) : word_Pack.f k ([] : List S37) = some 0 := by
  have := pack_eq [] (by simp) k (by simpa using hk)
  exact this
theorem j1_eq (w : BitVec 32) (lo n : Int) (h1 : 0 ≤ lo) (h2 : 1 ≤ n) (h3 : lo + n < 32) (k : Nat) (hk : 40 ≤ k) :
    corrallaw1_WordBits.j1 (k + 1) (U w) lo n true (allF w 32) (U (bitsB w lo n)) false = some true := by
  have hp := pack_eq (allF w 32) (by rw [allF_len]; omega) k (by rw [allF_len]; omega)
  have e1 : wrap64 (lo + n) = lo + n := by unfold wrap64; omega
  have e2 : wrap64 (32 - lo) = 32 - lo := by unfold wrap64; omega
  have e3 : wrap64 (32 - lo - n) = 32 - lo - n := by unfold wrap64; omega
  have e4 : wrap64 (32 - n) = 32 - n := by unfold wrap64; omega
  have hn : ¬ lo + n > 32 := by omega
  simp only [corrallaw1_WordBits.j1]
  rw [if_neg (by decide), hp, all_word]
  simp only [if_true, Option.bind_some, e1, e2, e3, e4, if_neg hn, left_eq, right_eq, ← cut w lo n h1 h2 h3, pack_nil k (by omega), beq_self_eq_true]
theorem last (w : BitVec 32) (x1 x2 x3 x4 : Int) (k : Nat) (hk : 41 ≤ k) :
    corrallaw1_WordBits.l0 (k + 1) (U w) x1 x2 x3 x4 true (allF w 32) (-1) = some true := by
  obtain ⟨k, rfl⟩ : ∃ m, k = m + 1 := ⟨k - 1, by omega⟩
  have hj := j1_eq w (x1 % 16) (x2 % 16 + 1) (by omega) (by omega) (by omega) k (by omega)
  have e1 : wrap64 (x2 % 16 + 1) = x2 % 16 + 1 := by unfold wrap64; omega
  have e2 : wrap64 (x4 % 8 + 1) = x4 % 8 + 1 := by unfold wrap64; omega
  have e3 : wrap64 (x3 % 8 + (x4 % 8 + 1)) = x3 % 8 + (x4 % 8 + 1) := by unfold wrap64; omega
  have e4 : wrap64 (x1 % 16 + x3 % 8) = x1 % 16 + x3 % 8 := by unfold wrap64; omega
  rw [corrallaw1_WordBits.l0.eq_2]
  rw [if_neg (by decide)]
  simp only [and15, and7, e1, e2, e3, e4, bits_eq, Option.bind_some]
  by_cases c : x3 % 8 + (x4 % 8 + 1) ≤ x2 % 16 + 1
  · rw [if_pos c, part_part w _ _ _ _ (by omega) (by omega) c]
    simpa using hj
  · rw [if_neg c]; exact hj
theorem loop (w : BitVec 32) (x1 x2 x3 x4 : Int) (n : Nat) : ∀ (k : Nat) (l : List S37), l.length + n ≤ 40 →
    corrallaw1_WordBits.l0 (k + n) (U w) x1 x2 x3 x4 true l ((n : Int) - 1) = corrallaw1_WordBits.l0 k (U w) x1 x2 x3 x4 true (l ++ allF w n) (-1) := by
  induction n with
  | zero => intro k l _; simp [allF]
  | succ n ih =>
    intro k l hl
    have e : ((n + 1 : Nat) : Int) - 1 = (n : Int) := by omega
    have e2 : wrap64 ((n : Int) - 1) = (n : Int) - 1 := by unfold wrap64; omega
    rw [e, show k + (n + 1) = (k + n) + 1 by omega, corrallaw1_WordBits.l0.eq_2]
    rw [if_pos (by omega), bits_eq]
    simp only [Option.bind_some, e2]
    rw [if_pos (by omega), ih k _ (by simp; omega), allF_succ]
    simp [bitF]
theorem loop_all (w : BitVec 32) (x1 x2 x3 x4 : Int) (K : Nat) (hK : 74 ≤ K) (i : Int) (hi : i = 31) :
    corrallaw1_WordBits.l0 K (U w) x1 x2 x3 x4 true [] i = some true := by
  obtain ⟨k, rfl⟩ : ∃ k, K = k + 1 + 32 := ⟨K - 33, by omega⟩
  obtain rfl : i = ((32 : Nat) : Int) - 1 := by omega
  rw [loop w x1 x2 x3 x4 32 (k + 1) [] (by simp), List.nil_append]
  exact last w x1 x2 x3 x4 k (by omega)
theorem main (w : BitVec 32) (x1 x2 x3 x4 : Int) (k : Nat) (hk : 74 ≤ k) (h : corrallaw1_first.f k = some true) : corrallaw1_WordBits.f k (U w) x1 x2 x3 x4 = some true := by
  unfold corrallaw1_WordBits.f
  rw [h, Option.bind_some, if_pos rfl]
  exact loop_all w x1 x2 x3 x4 k hk 31 rfl
end WordBitsP
theorem WordBits : corrallaw1_WordBits.Pure := by
  intro a0 a1 a2 a3 a4 h0 _ _ _ _
  obtain ⟨w, rfl⟩ := wf_u32 h0
  exact ⟨100, WordBitsP.main w a1 a2 a3 a4 100 (by decide) WordBitsP.first_true⟩

end Go.Proofs.Ythpaieglgjjbiaa.Pure
