/- Fields joined and split are what they were, as many bits of each: for every six words. -/
import Derived.Test.YtcaohimipkoapaaQEncJoinsx3
import Derived.Test.YtcaohimipkoapaaBv
set_option linter.unusedSimpArgs false
set_option linter.unusedVariables false
namespace Go.Proofs.Ytcaohimipkoapaa.Pure
open Go.RowKit Go.Proofs.Ytcaohimipkoapaa.QEncJoins Go.Proofs.YtcaohimipkoapaaW.PrintWords Go.Proofs.YtcaohimipkoapaaW.PrintLast Go.Proofs.YtcaohimipkoapaaW.PrintMore Go.Proofs.Ytcaohimipkoapaa.Bv
namespace EncJoinsP
theorem mask_eq (n : Int) : word_mask.f n = some (U (maskB n)) := by
  unfold word_mask.f maskB
  by_cases h : n ≥ 32
  · rw [if_pos h, if_pos h]; rfl
  · rw [if_neg h, if_neg h, shl_U, mod_U]
    have e1 : BitVec.ofInt 32 1 = 1#32 := rfl
    have e2 : (mx n 0).toNat = n.toNat := by unfold mx; split <;> omega
    congr 2
    rw [e2, e1, Bv.ofInt_sub, ofInt_U, e1]

def bitsB (w : BitVec 32) (lo n : Int) : BitVec 32 := if lo < 0 then 0#32 else (w >>> lo.toNat) &&& maskB n
theorem bitsB_bit (w : BitVec 32) (lo n : Int) (i : Nat) : (bitsB w lo n).getLsbD i = (decide (0 ≤ lo) && (decide ((i : Int) < n) && w.getLsbD (lo.toNat + i))) := by
  unfold bitsB
  by_cases h : lo < 0
  · rw [if_pos h]; have : ¬ 0 ≤ lo := by omega
    simp [this]
  · rw [if_neg h, BitVec.getLsbD_and, maskB_bit, BitVec.getLsbD_ushiftRight]
    have h0 : 0 ≤ lo := by omega
    by_cases hi : i < 32
    · simp [hi, h0, Bool.and_comm]
    · rw [BitVec.getLsbD_of_ge w (lo.toNat + i) (by omega)]; simp
theorem bits_eq (w : BitVec 32) (lo n : Int) : word_Bits.f (U w) lo n = some (U (bitsB w lo n)) := by
  have h0 : (0 : Int) = U 0#32 := rfl
  unfold word_Bits.f
  by_cases h1 : lo < 0
  · rw [if_pos h1]; unfold bitsB; rw [if_pos h1]; rfl
  rw [if_neg h1]
  by_cases h2 : lo ≥ 32
  · rw [if_pos h2]; unfold bitsB; rw [if_neg h1, BitVec.ushiftRight_eq_zero (by omega)]; simp; rfl
  rw [if_neg h2]
  by_cases h3 : n < 1
  · rw [if_pos h3]
    have : bitsB w lo n = 0#32 := by
      apply BitVec.eq_of_getLsbD_eq; intro i hi; rw [bitsB_bit]
      have : ¬ (i : Int) < n := by omega
      simp [this]
    rw [this]; rfl
  rw [if_neg h3, if_pos (by omega)]
  simp only [mask_eq, Option.bind_some, shr_U, and_U, ofInt_U]
  unfold bitsB; rw [if_neg h1]

/-- One field laid. -/
def step (a : BitVec 32) (f : S72) : BitVec 32 := if 0 ≤ f.f0 ∧ f.f0 < 32 then a ||| ((BitVec.ofInt 32 f.f2 &&& maskB f.f1) <<< f.f0.toNat) else a
theorem rd_at (l : List S72) (i : Nat) (h : i < l.length) : rd_T72 l (i : Int) = l[i] := by
  unfold rd_T72; simp [h]
theorem wrap_succ (i : Nat) (h : i < 4611686018427387904) : wrap64 ((i : Int) + 1) = ((i + 1 : Nat) : Int) := by unfold wrap64; omega
theorem pack_loop (l : List S72) (hl : l.length ≤ 4611686018427387904) (d : Nat) : ∀ (k i : Nat) (a : BitVec 32), i + d = l.length → d + 1 ≤ k →
    word_Pack.l0 k (U a) l (l.length : Int) (i : Int) = some (U ((l.drop i).foldl step a)) := by
  induction d with
  | zero =>
    intro k i a hi hk
    obtain ⟨k, rfl⟩ : ∃ m, k = m + 1 := ⟨k - 1, by omega⟩
    simp only [word_Pack.l0]
    rw [if_neg (by omega), List.drop_of_length_le (by omega)]
    rfl
  | succ d ih =>
    intro k i a hi hk
    obtain ⟨k, rfl⟩ : ∃ m, k = m + 1 := ⟨k - 1, by omega⟩
    have hlt : i < l.length := by omega
    have ih' := fun a => ih k (i + 1) a (by omega) (by omega)
    simp only [word_Pack.l0]
    rw [if_pos (by omega), if_pos (by omega), if_pos (by omega), rd_at l i hlt, wrap_succ i (by omega), List.drop_eq_getElem_cons hlt, List.foldl_cons]
    generalize l[i] = f
    unfold step
    by_cases c1 : f.f0 ≥ 0
    · by_cases c2 : f.f0 < 32
      · rw [if_pos c1, if_pos c2, mask_eq, if_pos ⟨c1, c2⟩]
        simp only [Option.bind_some]
        rw [if_pos (by omega), and_U, shl_U, or_U, ofInt_U, ofInt_U, ofInt_U, ofInt_U]
        exact ih' _
      · rw [if_pos c1, if_neg c2, if_neg (by omega)]; exact ih' _
    · rw [if_neg c1, if_neg (by omega)]; exact ih' _
theorem pack_eq (l : List S72) (hl : l.length ≤ 4611686018427387904) (k : Nat) (hk : l.length + 1 ≤ k) : word_Pack.f k l = some (U (l.foldl step 0#32)) := by
  have h0 : U 0#32 = 0 := rfl
  have := pack_loop l hl l.length k 0 0#32 (by omega) hk
  rw [h0] at this
  unfold word_Pack.f
  simpa using this
/-- Does a field say that bit j is one? -/
def says (f : S72) (j : Nat) : Bool := decide (0 ≤ f.f0) && (decide (f.f0 ≤ j) && (decide ((j : Int) - f.f0 < f.f1) && (BitVec.ofInt 32 f.f2).getLsbD (j - f.f0.toNat)))
theorem step_bit (a : BitVec 32) (f : S72) (j : Nat) (hj : j < 32) : (step a f).getLsbD j = (a.getLsbD j || says f j) := by
  unfold step says
  by_cases c : 0 ≤ f.f0 ∧ f.f0 < 32
  · rw [if_pos c, BitVec.getLsbD_or, BitVec.getLsbD_shiftLeft, BitVec.getLsbD_and, maskB_bit, decide_eq_true hj, decide_eq_true c.1]
    obtain ⟨m, hm⟩ : ∃ m : Nat, f.f0 = m := ⟨f.f0.toNat, by omega⟩
    rw [hm]
    by_cases d : m ≤ j
    · have a1 : ¬ j < m := by omega
      have a2 : ((m : Nat) : Int) ≤ (j : Int) := by omega
      have a3 : j - m < 32 := by omega
      have a4 : ((j - m : Nat) : Int) = (j : Int) - (m : Int) := by omega
      rw [Int.toNat_natCast, decide_eq_false a1, decide_eq_true a2, decide_eq_true a3, a4]
      simp [Bool.and_comm]
    · have a1 : j < m := by omega
      have a2 : ¬ ((m : Nat) : Int) ≤ (j : Int) := by omega
      rw [Int.toNat_natCast, decide_eq_true a1, decide_eq_false a2]
      simp
  · rw [if_neg c]
    by_cases d : 0 ≤ f.f0
    · have a2 : ¬ f.f0 ≤ (j : Int) := by omega
      rw [decide_eq_false a2]; simp
    · rw [decide_eq_false d]; simp
theorem fold_bit (l : List S72) (j : Nat) (hj : j < 32) : ∀ a : BitVec 32, (l.foldl step a).getLsbD j = (a.getLsbD j || l.any (says · j)) := by
  induction l with
  | nil => intro a; simp
  | cons f l ih => intro a; rw [List.foldl_cons, ih, step_bit a f j hj, List.any_cons, Bool.or_assoc]

def fld (lo n : Nat) (v : BitVec 32) : S72 := ⟨(lo : Int), (n : Int), U v⟩
theorem says_in (lo n : Nat) (v : BitVec 32) (j : Nat) (h0 : lo ≤ j) (h1 : j < lo + n) : says (fld lo n v) j = v.getLsbD (j - lo) := by
  unfold says fld
  simp only [ofInt_U, Int.toNat_natCast]
  rw [decide_eq_true (show (0 : Int) ≤ (lo : Int) by omega), decide_eq_true (show (lo : Int) ≤ (j : Int) by omega), decide_eq_true (show (j : Int) - (lo : Int) < (n : Int) by omega)]
  simp
theorem says_out (lo n : Nat) (v : BitVec 32) (j : Nat) (h : j < lo ∨ lo + n ≤ j) : says (fld lo n v) j = false := by
  unfold says fld
  simp only [ofInt_U, Int.toNat_natCast]
  by_cases c : j < lo
  · rw [decide_eq_false (show ¬ (lo : Int) ≤ (j : Int) by omega)]; simp
  · rw [decide_eq_false (show ¬ (j : Int) - (lo : Int) < (n : Int) by omega)]; simp
def six (a b c d e g : BitVec 32) : List S72 := [fld 0 7 a, fld 7 5 b, fld 12 3 c, fld 15 5 d, fld 20 5 e, fld 25 7 g]
theorem six_bit (a b c d e g : BitVec 32) (j : Nat) (hj : j < 32) : ((six a b c d e g).foldl step 0#32).getLsbD j =
    (if j < 7 then a.getLsbD j else if j < 12 then b.getLsbD (j - 7) else if j < 15 then c.getLsbD (j - 12) else if j < 20 then d.getLsbD (j - 15) else if j < 25 then e.getLsbD (j - 20) else g.getLsbD (j - 25)) := by
  rw [fold_bit _ j hj]
  simp only [six, List.any_cons, List.any_nil]
  by_cases c1 : j < 7
  · rw [if_pos c1, says_in 0 7 a j (by omega) (by omega), says_out 7 5 b j (by omega), says_out 12 3 c j (by omega), says_out 15 5 d j (by omega), says_out 20 5 e j (by omega), says_out 25 7 g j (by omega)]; simp
  rw [if_neg c1]
  by_cases c2 : j < 12
  · rw [if_pos c2, says_out 0 7 a j (by omega), says_in 7 5 b j (by omega) (by omega), says_out 12 3 c j (by omega), says_out 15 5 d j (by omega), says_out 20 5 e j (by omega), says_out 25 7 g j (by omega)]; simp
  rw [if_neg c2]
  by_cases c3 : j < 15
  · rw [if_pos c3, says_out 0 7 a j (by omega), says_out 7 5 b j (by omega), says_in 12 3 c j (by omega) (by omega), says_out 15 5 d j (by omega), says_out 20 5 e j (by omega), says_out 25 7 g j (by omega)]; simp
  rw [if_neg c3]
  by_cases c4 : j < 20
  · rw [if_pos c4, says_out 0 7 a j (by omega), says_out 7 5 b j (by omega), says_out 12 3 c j (by omega), says_in 15 5 d j (by omega) (by omega), says_out 20 5 e j (by omega), says_out 25 7 g j (by omega)]; simp
  rw [if_neg c4]
  by_cases c5 : j < 25
  · rw [if_pos c5, says_out 0 7 a j (by omega), says_out 7 5 b j (by omega), says_out 12 3 c j (by omega), says_out 15 5 d j (by omega), says_in 20 5 e j (by omega) (by omega), says_out 25 7 g j (by omega)]; simp
  rw [if_neg c5, says_out 0 7 a j (by omega), says_out 7 5 b j (by omega), says_out 12 3 c j (by omega), says_out 15 5 d j (by omega), says_out 20 5 e j (by omega), says_in 25 7 g j (by omega) (by omega)]; simp
theorem join_eq (a b c d e g : BitVec 32) (k : Nat) (hk : 8 ≤ k) : enc_Join.f k (U a) (U b) (U c) (U d) (U e) (U g) = some (U ((six a b c d e g).foldl step 0#32)) := by
  have := pack_eq (six a b c d e g) (by simp [six]) k (by simp [six]; omega)
  unfold enc_Join.f
  have e : ([(⟨0, 7, U a⟩ : S72), (⟨7, 5, U b⟩ : S72), (⟨12, 3, U c⟩ : S72), (⟨15, 5, U d⟩ : S72), (⟨20, 5, U e⟩ : S72), (⟨25, 7, U g⟩ : S72)] : List S72) = six a b c d e g := rfl
  rw [e, this, Option.bind_some]
theorem split_eq (w : BitVec 32) : enc_Split.f (U w) = some (U (bitsB w 0 7), U (bitsB w 7 5), U (bitsB w 12 3), U (bitsB w 15 5), U (bitsB w 20 5), U (bitsB w 25 7)) := by
  unfold enc_Split.f
  simp only [bits_eq, Option.bind_some]

theorem first_true : corrallaw2_first.f 500 = some true := by decide +kernel
theorem m127 : (127#32) = maskB 7 := by decide
theorem m31 : (31#32) = maskB 5 := by decide
theorem m7 : (7#32) = maskB 3 := by decide
theorem part (W v : BitVec 32) (lo n : Nat) (hn : lo + n ≤ 32) (h : ∀ i, i < n → W.getLsbD (lo + i) = v.getLsbD i) : bitsB W (lo : Int) (n : Int) = v &&& maskB (n : Int) := by
  apply BitVec.eq_of_getLsbD_eq; intro i hi
  rw [bitsB_bit, BitVec.getLsbD_and, maskB_bit, decide_eq_true hi, decide_eq_true (show (0 : Int) ≤ (lo : Int) by omega), Int.toNat_natCast]
  by_cases c : i < n
  · rw [decide_eq_true (show (i : Int) < (n : Int) by omega), h i c]; simp
  · rw [decide_eq_false (show ¬ (i : Int) < (n : Int) by omega)]; simp
theorem main (a b c d e g : BitVec 32) (k : Nat) (hk : 8 ≤ k) (h : corrallaw2_first.f k = some true) : corrallaw2_EncJoins.f k (U a) (U b) (U c) (U d) (U e) (U g) = some true := by
  have p0 := part ((six a b c d e g).foldl step 0#32) a 0 7 (by omega) (fun i hi => by rw [six_bit _ _ _ _ _ _ _ (by omega), if_pos (by omega), Nat.zero_add])
  have p1 := part ((six a b c d e g).foldl step 0#32) b 7 5 (by omega) (fun i hi => by rw [six_bit _ _ _ _ _ _ _ (by omega), if_neg (by omega), if_pos (by omega), Nat.add_sub_cancel_left])
  have p2 := part ((six a b c d e g).foldl step 0#32) c 12 3 (by omega) (fun i hi => by rw [six_bit _ _ _ _ _ _ _ (by omega), if_neg (by omega), if_neg (by omega), if_pos (by omega), Nat.add_sub_cancel_left])
  have p3 := part ((six a b c d e g).foldl step 0#32) d 15 5 (by omega) (fun i hi => by rw [six_bit _ _ _ _ _ _ _ (by omega), if_neg (by omega), if_neg (by omega), if_neg (by omega), if_pos (by omega), Nat.add_sub_cancel_left])
  have p4 := part ((six a b c d e g).foldl step 0#32) e 20 5 (by omega) (fun i hi => by rw [six_bit _ _ _ _ _ _ _ (by omega), if_neg (by omega), if_neg (by omega), if_neg (by omega), if_neg (by omega), if_pos (by omega), Nat.add_sub_cancel_left])
  have p5 := part ((six a b c d e g).foldl step 0#32) g 25 7 (by omega) (fun i hi => by rw [six_bit _ _ _ _ _ _ _ (by omega), if_neg (by omega), if_neg (by omega), if_neg (by omega), if_neg (by omega), if_neg (by omega), Nat.add_sub_cancel_left])
  have e1 : BitVec.ofInt 32 127 = 127#32 := rfl
  have e2 : BitVec.ofInt 32 31 = 31#32 := rfl
  have e3 : BitVec.ofInt 32 7 = 7#32 := rfl
  have q0 : bitsB ((six a b c d e g).foldl step 0#32) 0 7 = a &&& maskB 7 := p0
  have q1 : bitsB ((six a b c d e g).foldl step 0#32) 7 5 = b &&& maskB 5 := p1
  have q2 : bitsB ((six a b c d e g).foldl step 0#32) 12 3 = c &&& maskB 3 := p2
  have q3 : bitsB ((six a b c d e g).foldl step 0#32) 15 5 = d &&& maskB 5 := p3
  have q4 : bitsB ((six a b c d e g).foldl step 0#32) 20 5 = e &&& maskB 5 := p4
  have q5 : bitsB ((six a b c d e g).foldl step 0#32) 25 7 = g &&& maskB 7 := p5
  unfold corrallaw2_EncJoins.f
  rw [h, Option.bind_some, if_pos rfl, join_eq _ _ _ _ _ _ k hk, Option.bind_some, split_eq, Option.bind_some]
  simp only [and_U, ofInt_U, e1, e2, e3, m127, m31, m7, q0, q1, q2, q3, q4, q5, if_true, beq_self_eq_true]
end EncJoinsP
theorem EncJoins : corrallaw2_EncJoins.Pure := by
  intro a0 a1 a2 a3 a4 a5 h0 h1 h2 h3 h4 h5
  obtain ⟨a, rfl⟩ := wf_u32 h0
  obtain ⟨b, rfl⟩ := wf_u32 h1
  obtain ⟨c, rfl⟩ := wf_u32 h2
  obtain ⟨d, rfl⟩ := wf_u32 h3
  obtain ⟨e, rfl⟩ := wf_u32 h4
  obtain ⟨g, rfl⟩ := wf_u32 h5
  exact ⟨500, EncJoinsP.main a b c d e g 500 (by decide) EncJoinsP.first_true⟩

end Go.Proofs.Ytcaohimipkoapaa.Pure
