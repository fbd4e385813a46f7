/- Fields packed are what the reference says; those that do not lie across one another are read back: for every list of at most 40 fields (of more nothing is asked). -/
import Derived.Test.YthpaieglgjjbiaaQWordPacksx3
import Derived.Test.YthpaieglgjjbiaaBv
set_option linter.unusedSimpArgs false
set_option linter.unusedVariables false
namespace Go.Proofs.Ythpaieglgjjbiaa.Pure
open Go.RowKit Go.Proofs.Ythpaieglgjjbiaa.QWordPacks Go.Proofs.YthpaieglgjjbiaaW.PrintWords Go.Proofs.YthpaieglgjjbiaaW.PrintLast Go.Proofs.YthpaieglgjjbiaaW.PrintMore Go.Proofs.Ythpaieglgjjbiaa.Bv
namespace WordPacksP
theorem mask_eq (n : Int) : word_mask.f n = some (U (maskB n)) := by
  unfold word_mask.f maskB
  by_cases h : n ≥ 32
  · rw [if_pos h, if_pos h]; rfl
  · rw [if_neg h, if_neg h, shl_U, mod_U]
    have e1 : BitVec.ofInt 32 1 = 1#32 := rfl
    have e2 : (mx n 0).toNat = n.toNat := by unfold mx; split <;> omega
    congr 2
    rw [e2, e1, Bv.ofInt_sub, ofInt_U, e1]
def bitsB (w : BitVec 32) (lo n : Int) : BitVec 32 := if lo < 0 then 0#32 else (w >>> lo.toNat) &&& maskB n
theorem bitsB_bit (w : BitVec 32) (lo n : Int) (i : Nat) : (bitsB w lo n).getLsbD i = (decide (0 ≤ lo) && (decide ((i : Int) < n) && w.getLsbD (lo.toNat + i))) := by
  unfold bitsB
  by_cases h : lo < 0
  · rw [if_pos h]; have : ¬ 0 ≤ lo := by omega
    simp [this]
  · rw [if_neg h, BitVec.getLsbD_and, maskB_bit, BitVec.getLsbD_ushiftRight]
    have h0 : 0 ≤ lo := by omega
    by_cases hi : i < 32
    · simp [hi, h0, Bool.and_comm]
    · rw [BitVec.getLsbD_of_ge w (lo.toNat + i) (by omega)]; simp
theorem bits_eq (w : BitVec 32) (lo n : Int) : word_Bits.f (U w) lo n = some (U (bitsB w lo n)) := by
  have h0 : (0 : Int) = U 0#32 := rfl
  unfold word_Bits.f
  by_cases h1 : lo < 0
  · rw [if_pos h1]; unfold bitsB; rw [if_pos h1]; rfl
  rw [if_neg h1]
  by_cases h2 : lo ≥ 32
  · rw [if_pos h2]; unfold bitsB; rw [if_neg h1, BitVec.ushiftRight_eq_zero (by omega)]; simp; rfl
  rw [if_neg h2]
  by_cases h3 : n < 1
  · rw [if_pos h3]
    have : bitsB w lo n = 0#32 := by
      apply BitVec.eq_of_getLsbD_eq; intro i hi; rw [bitsB_bit]
      have : ¬ (i : Int) < n := by omega
      simp [this]
    rw [this]; rfl
  rw [if_neg h3, if_pos (by omega)]
  simp only [mask_eq, Option.bind_some, shr_U, and_U, ofInt_U]
  unfold bitsB; rw [if_neg h1]
theorem left_eq (w : BitVec 32) (n : Int) : word_Left.f (U w) n = some (U (w <<< (n % 32).toNat)) := by
  unfold word_Left.f
  rw [and31, if_pos (by omega), shl_U, ofInt_U]

/-- One field laid. -/
def step (a : BitVec 32) (f : S37) : BitVec 32 := if 0 ≤ f.f0 ∧ f.f0 < 32 then a ||| ((BitVec.ofInt 32 f.f2 &&& maskB f.f1) <<< f.f0.toNat) else a
theorem rd_at (l : List S37) (i : Nat) (h : i < l.length) : rd_T37 l (i : Int) = l[i] := by
  unfold rd_T37; simp [h]
theorem wrap_succ (i : Nat) (h : i < 4611686018427387904) : wrap64 ((i : Int) + 1) = ((i + 1 : Nat) : Int) := by unfold wrap64; omega
theorem pack_loop (l : List S37) (hl : l.length ≤ 4611686018427387904) (d : Nat) : ∀ (k i : Nat) (a : BitVec 32), i + d = l.length → d + 1 ≤ k →
    word_Pack.l0 k (U a) l (l.length : Int) (i : Int) = some (U ((l.drop i).foldl step a)) := by
  induction d with
  | zero =>
    intro k i a hi hk
    obtain ⟨k, rfl⟩ : ∃ m, k = m + 1 := ⟨k - 1, by omega⟩
    simp only [word_Pack.l0]
    rw [if_neg (by omega), List.drop_of_length_le (by omega)]
    rfl
  | succ d ih =>
    intro k i a hi hk
    obtain ⟨k, rfl⟩ : ∃ m, k = m + 1 := ⟨k - 1, by omega⟩
    have hlt : i < l.length := by omega
    have ih' := fun a => ih k (i + 1) a (by omega) (by omega)
    simp only [word_Pack.l0]
    rw [if_pos (by omega), if_pos (by omega), if_pos (by omega), rd_at l i hlt, wrap_succ i (by omega), List.drop_eq_getElem_cons hlt, List.foldl_cons]
    generalize l[i] = f
    unfold step
    by_cases c1 : f.f0 ≥ 0
    · by_cases c2 : f.f0 < 32
      · rw [if_pos c1, if_pos c2, mask_eq, if_pos ⟨c1, c2⟩]
        simp only [Option.bind_some]
        rw [if_pos (by omega), and_U, shl_U, or_U, ofInt_U, ofInt_U, ofInt_U, ofInt_U]
        exact ih' _
      · rw [if_pos c1, if_neg c2, if_neg (by omega)]; exact ih' _
    · rw [if_neg c1, if_neg (by omega)]; exact ih' _
theorem pack_eq (l : List S37) (hl : l.length ≤ 4611686018427387904) (k : Nat) (hk : l.length + 1 ≤ k) : word_Pack.f k l = some (U (l.foldl step 0#32)) := by
  have h0 : U 0#32 = 0 := rfl
  have := pack_loop l hl l.length k 0 0#32 (by omega) hk
  rw [h0] at this
  unfold word_Pack.f
  simpa using this
/-- Does a field say that bit j is one? -/
def says (f : S37) (j : Nat) : Bool := decide (0 ≤ f.f0) && (decide (f.f0 ≤ j) && (decide ((j : Int) - f.f0 < f.f1) && (BitVec.ofInt 32 f.f2).getLsbD (j - f.f0.toNat)))
theorem step_bit (a : BitVec 32) (f : S37) (j : Nat) (hj : j < 32) : (step a f).getLsbD j = (a.getLsbD j || says f j) := by
  unfold step says
  by_cases c : 0 ≤ f.f0 ∧ f.f0 < 32
  · rw [if_pos c, BitVec.getLsbD_or, BitVec.getLsbD_shiftLeft, BitVec.getLsbD_and, maskB_bit, decide_eq_true hj, decide_eq_true c.1]
    obtain ⟨m, hm⟩ : ∃ m : Nat, f.f0 = m := ⟨f.f0.toNat, by omega⟩
    rw [hm]
    by_cases d : m ≤ j
    · have a1 : ¬ j < m := by omega
      have a2 : ((m : Nat) : Int) ≤ (j : Int) := by omega
      have a3 : j - m < 32 := by omega
      have a4 : ((j - m : Nat) : Int) = (j : Int) - (m : Int) := by omega
      rw [Int.toNat_natCast, decide_eq_false a1, decide_eq_true a2, decide_eq_true a3, a4]
      simp [Bool.and_comm]
    · have a1 : j < m := by omega
      have a2 : ¬ ((m : Nat) : Int) ≤ (j : Int) := by omega
      rw [Int.toNat_natCast, decide_eq_true a1, decide_eq_false a2]
      simp
  · rw [if_neg c]
    by_cases d : 0 ≤ f.f0
    · have a2 : ¬ f.f0 ≤ (j : Int) := by omega
      rw [decide_eq_false a2]; simp
    · rw [decide_eq_false d]; simp
theorem fold_bit (l : List S37) (j : Nat) (hj : j < 32) : ∀ a : BitVec 32, (l.foldl step a).getLsbD j = (a.getLsbD j || l.any (says · j)) := by
  induction l with
  | nil => intro a; simp
  | cons f l ih => intro a; rw [List.foldl_cons, ih, step_bit a f j hj, List.any_cons, Bool.or_assoc]

theorem first_true : corrallaw1_first.f 5000 = some true := by decide +kernel
theorem wrap_u64 (n : Int) : IntKind.u64.wrap n = n % 18446744073709551616 := by
  simp [IntKind.wrap, IntKind.bits, IntKind.signed]
theorem mask_small (n : Int) (h : n < 32) : (shl .u32 1 n - 1) % 4294967296 = U (maskB n) := by
  have e1 : BitVec.ofInt 32 1 = 1#32 := rfl
  unfold maskB
  rw [if_neg (by omega), shl_U, mod_U, Bv.ofInt_sub, ofInt_U, e1]
theorem refBits_eq (w : BitVec 32) (n : Int) (h1 : 1 ≤ n) (h9 : n ≤ 9223372036854775807) (k : Nat) : corralref1_Bits.f (k + 1) (U w) 0 n = some (U (w &&& maskB n)) := by
  unfold corralref1_Bits.f
  have e0 : IntKind.u64.wrap 0 = 0 := by rw [wrap_u64]; rfl
  have e2 : IntKind.u64.wrap n = n := by rw [wrap_u64]; omega
  have es : shr .u32 (U w) 0 = U w := by rw [shr_U]; simp
  rw [if_neg (by decide), if_neg (by decide), decide_eq_false (by omega)]
  simp only [corralref1_Bits.j0]
  rw [if_neg (by decide), e0, if_pos (by decide), e2, es]
  by_cases h : n ≥ 32
  · rw [if_pos h]
    congr 2
    apply BitVec.eq_of_getLsbD_eq; intro i hi
    have a1 : (i : Int) < n := by omega
    rw [BitVec.getLsbD_and, maskB_bit, decide_eq_true hi, decide_eq_true a1]; simp
  · rw [if_neg h, if_pos (by omega), mask_small n (by omega), and_U, ofInt_U, ofInt_U]
/-- What a field is, laid. -/
def placeB (f : S37) : BitVec 32 := step 0#32 f
theorem step_place (a : BitVec 32) (f : S37) : step a f = a ||| placeB f := by
  unfold placeB step
  split <;> simp
theorem mask_none (n : Int) (h : n < 1) : maskB n = 0#32 := by
  apply BitVec.eq_of_getLsbD_eq; intro i hi
  rw [maskB_bit, decide_eq_false (show ¬ (i : Int) < n by omega)]; simp
/-- A field whose numbers are of their kinds. -/
def Good (f : S37) : Prop := (-9223372036854775808 ≤ f.f0 ∧ f.f0 ≤ 9223372036854775807) ∧ (-9223372036854775808 ≤ f.f1 ∧ f.f1 ≤ 9223372036854775807) ∧ ∃ w : BitVec 32, f.f2 = U w
theorem place_eq (f : S37) (h : Good f) (k : Nat) (hk : 1 ≤ k) : corralref1_Place.f k f.f2 f.f0 f.f1 = some (U (placeB f)) := by
  obtain ⟨k, rfl⟩ : ∃ m, k = m + 1 := ⟨k - 1, by omega⟩
  obtain ⟨h0, h1, w, hw⟩ := h
  have e0 : U 0#32 = 0 := rfl
  unfold corralref1_Place.f placeB step
  by_cases c1 : f.f0 < 0
  · have hn : ¬ (0 ≤ f.f0 ∧ f.f0 < 32) := by omega
    rw [if_pos c1, if_neg hn, e0]
  rw [if_neg c1]
  by_cases c2 : f.f0 > 31
  · have hn : ¬ (0 ≤ f.f0 ∧ f.f0 < 32) := by omega
    rw [if_pos c2, if_neg hn, e0]
  have hp : 0 ≤ f.f0 ∧ f.f0 < 32 := by omega
  rw [if_neg c2, if_pos hp]
  have e : IntKind.u64.wrap f.f0 = f.f0 := by rw [wrap_u64]; omega
  by_cases c3 : f.f1 < 1
  · rw [if_pos c3, mask_none _ c3]; simp [e0]
  rw [if_neg c3, hw, refBits_eq w f.f1 (by omega) (by omega) k]
  simp only [Option.bind_some, e]
  rw [if_pos hp.1, shl_U, ofInt_U, ofInt_U]; simp
/-- The same field, all ones. -/
def ones (f : S37) : S37 := ⟨f.f0, f.f1, 4294967295⟩
theorem ones_good (f : S37) (h : Good f) : Good (ones f) := ⟨h.1, h.2.1, 4294967295#32, rfl⟩
theorem place_bit (f : S37) (j : Nat) (hj : j < 32) : (placeB f).getLsbD j = says f j := by
  unfold placeB; rw [step_bit _ _ j hj]; simp
theorem says_ones (f : S37) (j : Nat) (hj : j < 32) (h : says f j = true) : says (ones f) j = true := by
  unfold says ones at *
  simp only [Bool.and_eq_true, decide_eq_true_eq] at h ⊢
  refine ⟨h.1, h.2.1, h.2.2.1, ?_⟩
  have : BitVec.ofInt 32 4294967295 = BitVec.allOnes 32 := by decide
  rw [this, BitVec.getLsbD_allOnes]
  exact decide_eq_true (by omega)
/-- Do two fields lie across one another? -/
def Apart (f g : S37) : Prop := placeB (ones g) &&& placeB (ones f) = 0#32
theorem apart_says (f g : S37) (h : Apart f g) (j : Nat) (hj : j < 32) (hf : says (ones f) j = true) : says g j = false := by
  cases hg : says g j with
  | false => rfl
  | true =>
    have := congrArg (fun v => v.getLsbD j) h
    simp only [BitVec.getLsbD_and, place_bit _ j hj, hf, says_ones g j hj hg] at this
    simp at this
/-- A field that lies across no other is read back. -/
theorem read_back (l : List S37) (i : Nat) (hi : i < l.length) (h0 : 0 ≤ (l[i]).f0) (h31 : (l[i]).f0 ≤ 31) (ha : ∀ c (hc : c < l.length), c ≠ i → Apart l[i] l[c]) :
    bitsB (l.foldl step 0#32) (l[i]).f0 (l[i]).f1 = bitsB (BitVec.ofInt 32 (l[i]).f2 <<< ((l[i]).f0 % 32).toNat) (l[i]).f0 (l[i]).f1 := by
  generalize hf : l[i] = f at *
  obtain ⟨m, hm⟩ : ∃ m : Nat, f.f0 = m := ⟨f.f0.toNat, by omega⟩
  apply BitVec.eq_of_getLsbD_eq; intro j hj
  have e : (f.f0 % 32).toNat = m := by omega
  rw [bitsB_bit, bitsB_bit, e, hm, Int.toNat_natCast]
  by_cases c : (j : Int) < f.f1
  · rw [decide_eq_true c]
    by_cases d : m + j < 32
    · rw [fold_bit _ _ d, BitVec.getLsbD_shiftLeft, decide_eq_true d, decide_eq_false (show ¬ m + j < m by omega), show m + j - m = j by omega]
      have sf : says f (m + j) = (BitVec.ofInt 32 f.f2).getLsbD j := by
        unfold says
        rw [hm, Int.toNat_natCast, decide_eq_true (show (0 : Int) ≤ (m : Int) by omega), decide_eq_true (show (m : Int) ≤ ((m + j : Nat) : Int) by omega), decide_eq_true (show ((m + j : Nat) : Int) - (m : Int) < f.f1 by omega), show m + j - m = j by omega]
        simp
      have so : says (ones f) (m + j) = true := by
        unfold says ones
        have : BitVec.ofInt 32 4294967295 = BitVec.allOnes 32 := by decide
        simp only [hm, Int.toNat_natCast]
        rw [decide_eq_true (show (0 : Int) ≤ (m : Int) by omega), decide_eq_true (show (m : Int) ≤ ((m + j : Nat) : Int) by omega), decide_eq_true (show ((m + j : Nat) : Int) - (m : Int) < f.f1 by omega), show m + j - m = j by omega, this, BitVec.getLsbD_allOnes, decide_eq_true hj]
        rfl
      have : l.any (says · (m + j)) = says f (m + j) := by
        cases hs : says f (m + j) with
        | true => exact List.any_eq_true.2 ⟨f, hf ▸ List.getElem_mem hi, hs⟩
        | false =>
          rw [List.any_eq_false]
          intro g hg
          obtain ⟨c', hc', rfl⟩ := List.mem_iff_getElem.1 hg
          by_cases ec : c' = i
          · subst ec; rw [hf, hs]; decide
          · rw [apart_says f _ (ha c' hc' ec) (m + j) d so]; decide
      rw [this, sf]; simp
    · rw [BitVec.getLsbD_of_ge _ (m + j) (by omega), BitVec.getLsbD_of_ge _ (m + j) (by omega)]
  · rw [decide_eq_false c]; simp
theorem or_loop (l : List S37) (hl : l.length ≤ 40) (hg : ∀ f ∈ l, Good f) (w : BitVec 32) (R : Nat) (hw : l.foldl step 0#32 = w)
    (hn : ∀ k, R ≤ k → corrallaw1_WordPacks.l1 k l (U w) 0 = some true) (d : Nat) : ∀ (k i : Nat) (a : BitVec 32), i + d = l.length → d + 2 + R ≤ k → (l.drop i).foldl step a = w →
    corrallaw1_WordPacks.l0 k l (U w) (U a) (i : Int) = some true := by
  induction d with
  | zero =>
    intro k i a hi hk ha
    obtain ⟨k, rfl⟩ : ∃ m, k = m + 1 := ⟨k - 1, by omega⟩
    rw [List.drop_of_length_le (by omega)] at ha
    have ha : a = w := ha
    subst ha
    simp only [corrallaw1_WordPacks.l0]
    rw [if_neg (by omega), if_pos trivial]
    exact hn k (by omega)
  | succ d ih =>
    intro k i a hi hk ha
    obtain ⟨k, rfl⟩ : ∃ m, k = m + 1 := ⟨k - 1, by omega⟩
    have hlt : i < l.length := by omega
    rw [List.drop_eq_getElem_cons hlt, List.foldl_cons, step_place] at ha
    simp only [corrallaw1_WordPacks.l0]
    rw [if_pos (by omega), if_pos (by omega), rd_at l i hlt, place_eq _ (hg _ (List.getElem_mem hlt)) k (by omega), wrap_succ i (by omega)]
    simp only [Option.bind_some, or_U, ofInt_U]
    exact ih k (i + 1) _ (by omega) (by omega) ha
theorem cross_loop (l : List S37) (hl : l.length ≤ 40) (hg : ∀ f ∈ l, Good f) (w : BitVec 32) (R : Nat) (hw : l.foldl step 0#32 = w) (i : Nat) (hi : i < l.length)
    (hn : ∀ k, R ≤ k → corrallaw1_WordPacks.l1 k l (U w) ((i + 1 : Nat) : Int) = some true) (d : Nat) : ∀ (k c : Nat) (free : Bool), c + d = l.length → d + 2 + R ≤ k →
    (free = true → 0 ≤ (l[i]).f0 ∧ (l[i]).f0 ≤ 31 ∧ ∀ e (he : e < l.length), e < c → e ≠ i → Apart l[i] l[e]) →
    corrallaw1_WordPacks.l2 k l (U w) (i : Int) free (c : Int) (l[i]).f0 (l[i]).f1 (l[i]).f2 = some true := by
  obtain ⟨g0, g1, v, hv⟩ := hg _ (List.getElem_mem hi)
  have hgi := ones_good _ (hg _ (List.getElem_mem hi))
  induction d with
  | zero =>
    intro k c free hc hk hf
    obtain ⟨k, rfl⟩ : ∃ m, k = m + 1 := ⟨k - 1, by omega⟩
    simp only [corrallaw1_WordPacks.l2]
    rw [if_neg (by omega), wrap_succ i (by omega)]
    cases free with
    | false => rw [if_neg (by decide)]; exact hn k (by omega)
    | true =>
      obtain ⟨f0, f31, fa⟩ := hf rfl
      have hb := read_back l i hi f0 f31 (fun e he hne => fa e he (by omega) hne)
      rw [hw] at hb
      rw [if_pos rfl, bits_eq, hv, left_eq]
      simp only [Option.bind_some, bits_eq]
      rw [hv, ofInt_U] at hb
      rw [← hb, if_pos rfl]
      exact hn k (by omega)
  | succ d ih =>
    intro k c free hc hk hf
    obtain ⟨k, rfl⟩ : ∃ m, k = m + 1 := ⟨k - 1, by omega⟩
    have hlt : c < l.length := by omega
    simp only [corrallaw1_WordPacks.l2]
    rw [if_pos (by omega), if_pos (by omega), wrap_succ c (by omega)]
    cases free with
    | false =>
      rw [if_neg (by decide)]
      exact ih k (c + 1) false (by omega) (by omega) (fun h => by cases h)
    | true =>
      obtain ⟨f0, f31, fa⟩ := hf rfl
      rw [if_pos rfl]
      by_cases ec : c = i
      · rw [if_pos (by omega)]
        refine ih k (c + 1) true (by omega) (by omega) (fun _ => ⟨f0, f31, fun e he hlt' hne => fa e he (by omega) hne⟩)
      · rw [if_neg (by omega), rd_at l c hlt]
        have p1 := place_eq _ (ones_good _ (hg _ (List.getElem_mem hlt))) k (by omega)
        have p2 := place_eq _ hgi k (by omega)
        rw [show (ones l[c]).f2 = 4294967295 from rfl] at p1
        rw [show (ones l[i]).f2 = 4294967295 from rfl] at p2
        rw [show (ones l[c]).f0 = l[c].f0 from rfl, show (ones l[c]).f1 = l[c].f1 from rfl] at p1
        rw [show (ones l[i]).f0 = l[i].f0 from rfl, show (ones l[i]).f1 = l[i].f1 from rfl] at p2
        rw [p1, p2]
        simp only [Option.bind_some, and_U, ofInt_U]
        refine ih k (c + 1) _ (by omega) (by omega) (fun hfree => ⟨f0, f31, fun e he hlt' hne => ?_⟩)
        by_cases ee : e = c
        · subst ee
          have : U (placeB (ones l[e]) &&& placeB (ones l[i])) = U 0#32 := beq_iff_eq.1 hfree
          exact (U_inj _ _).1 this
        · exact fa e he (by omega) hne
theorem fields_loop (l : List S37) (hl : l.length ≤ 40) (hg : ∀ f ∈ l, Good f) (w : BitVec 32) (hw : l.foldl step 0#32 = w) (d : Nat) : ∀ (k i : Nat), i + d = l.length → 50 * d + 1 ≤ k →
    corrallaw1_WordPacks.l1 k l (U w) (i : Int) = some true := by
  induction d with
  | zero =>
    intro k i hi hk
    obtain ⟨k, rfl⟩ : ∃ m, k = m + 1 := ⟨k - 1, by omega⟩
    simp only [corrallaw1_WordPacks.l1]
    rw [if_neg (by omega)]
  | succ d ih =>
    intro k i hi hk
    obtain ⟨k, rfl⟩ : ∃ m, k = m + 2 := ⟨k - 2, by omega⟩
    have hlt : i < l.length := by omega
    have key : ∀ free : Bool, (free = true → 0 ≤ (l[i]).f0 ∧ (l[i]).f0 ≤ 31) → corrallaw1_WordPacks.j3 (k + 1) l (U w) (i : Int) free (l[i]).f0 (l[i]).f1 (l[i]).f2 = some true := by
      intro free hfree
      simp only [corrallaw1_WordPacks.j3]
      exact cross_loop l hl hg w (50 * d + 1) hw i hlt (fun k' hk' => ih k' (i + 1) (by omega) hk') l.length k 0 free (by omega) (by omega)
        (fun h => ⟨(hfree h).1, (hfree h).2, fun e he hlt' => absurd hlt' (by omega)⟩)
    simp only [corrallaw1_WordPacks.l1]
    rw [if_pos (by omega), if_pos (by omega), rd_at l i hlt]
    by_cases c0 : (l[i]).f0 ≥ 0
    · rw [if_pos c0]
      by_cases c1 : (l[i]).f0 ≤ 31
      · rw [if_pos c1]
        by_cases c2 : (l[i]).f1 ≥ 1
        · rw [if_pos c2]; exact key _ (fun _ => ⟨c0, c1⟩)
        · rw [if_neg c2]; exact key _ (fun h => by cases h)
      · rw [if_neg c1]; exact key _ (fun h => by cases h)
    · rw [if_neg c0]; exact key _ (fun h => by cases h)
theorem main (l : List S37) (hg : ∀ f ∈ l, Good f) (k : Nat) (hk : 3000 ≤ k) (h : corrallaw1_first.f k = some true) : corrallaw1_WordPacks.f k l = some true := by
  obtain ⟨k, rfl⟩ : ∃ m, k = m + 1 := ⟨k - 1, by omega⟩
  unfold corrallaw1_WordPacks.f
  rw [h, Option.bind_some, if_pos rfl]
  by_cases c : (l.length : Int) > 40
  · rw [if_pos c]; simp only [corrallaw1_WordPacks.j0, if_true]
  · rw [if_neg c]
    have hl : l.length ≤ 40 := by omega
    simp only [corrallaw1_WordPacks.j0, Bool.not_true]
    rw [if_neg (by decide), pack_eq l (by omega) k (by omega), Option.bind_some]
    have z : U 0#32 = 0 := rfl
    have := or_loop l hl hg _ 2010 rfl (fun k' hk' => fields_loop l hl hg _ rfl l.length k' 0 (by omega) (by omega)) l.length k 0 0#32 (by omega) (by omega) rfl
    rw [z] at this
    exact this
end WordPacksP
theorem WordPacks (l : List S37) (hg : ∀ f ∈ l, WordPacksP.Good f) : ∃ k, corrallaw1_WordPacks.f k l = some true :=
  ⟨5000, WordPacksP.main l hg 5000 (by decide) WordPacksP.first_true⟩

end Go.Proofs.Ythpaieglgjjbiaa.Pure
