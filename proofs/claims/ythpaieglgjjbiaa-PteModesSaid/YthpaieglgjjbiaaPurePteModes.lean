/- No entry of a page table may be used in both modes; what may be stored to may be loaded from; an entry without V may not be used: for every entry and every access. -/
import Derived.Test.YthpaieglgjjbiaaQPteModesx2
import Derived.Test.YthpaieglgjjbiaaBv
set_option linter.unusedSimpArgs false
namespace Go.Proofs.Ythpaieglgjjbiaa.Pure
open Go.RowKit Go.Proofs.Ythpaieglgjjbiaa.QPteModes Go.Proofs.YthpaieglgjjbiaaW.PrintWords Go.Proofs.YthpaieglgjjbiaaW.PrintLast Go.Proofs.Ythpaieglgjjbiaa.Bv
namespace PteModesP
theorem bit_eq (w : BitVec 32) (i : Nat) (hi : i < 32) (m : Int) (hm : BitVec.ofInt 32 m = BitVec.twoPow 32 i) : (Go.bits .and .u32 (U w) m = 0) = (w.getLsbD i = false) := by
  rw [and_U, ofInt_U, hm, and_bit w i hi]
theorem bit1 (w : BitVec 32) : (Go.bits .and .u32 (U w) 1 = 0) = (w.getLsbD 0 = false) := bit_eq w 0 (by decide) 1 (by decide)
theorem bit2 (w : BitVec 32) : (Go.bits .and .u32 (U w) 2 = 0) = (w.getLsbD 1 = false) := bit_eq w 1 (by decide) 2 (by decide)
theorem bit4 (w : BitVec 32) : (Go.bits .and .u32 (U w) 4 = 0) = (w.getLsbD 2 = false) := bit_eq w 2 (by decide) 4 (by decide)
theorem bit8 (w : BitVec 32) : (Go.bits .and .u32 (U w) 8 = 0) = (w.getLsbD 3 = false) := bit_eq w 3 (by decide) 8 (by decide)
theorem bit16 (w : BitVec 32) : (Go.bits .and .u32 (U w) 16 = 0) = (w.getLsbD 4 = false) := bit_eq w 4 (by decide) 16 (by decide)
theorem bit0 (w : BitVec 32) : (Go.bits .and .u32 (U w) 0 = 0) = True := by
  rw [and_U, ofInt_U]; simp; rfl
theorem bit16b (w : BitVec 32) : (Go.bits .and .u32 (U w) 16 != 0) = w.getLsbD 4 := by
  have := bit16 w
  cases h : w.getLsbD 4 <;> simp_all [bne]
theorem bit208 (w : BitVec 32) : (Go.bits .and .u32 (U w) 208 = 0) = (w.getLsbD 4 = false ∧ w.getLsbD 6 = false ∧ w.getLsbD 7 = false) := by
  rw [and_U, ofInt_U, ← and_bit w 4 (by decide), ← and_bit w 6 (by decide), ← and_bit w 7 (by decide), ← or_zero, ← or_zero, ← BitVec.and_or_distrib_left, ← BitVec.and_or_distrib_left]
  rfl
theorem bit10 (w : BitVec 32) : (Go.bits .and .u32 (U w) 10 = 0) = (w.getLsbD 1 = false ∧ w.getLsbD 3 = false) := by
  rw [and_U, ofInt_U, ← and_bit w 1 (by decide), ← and_bit w 3 (by decide), ← or_zero, ← BitVec.and_or_distrib_left]
  rfl
theorem leaf_eq (w : BitVec 32) : pte_Leaf.f (U w) = some (w.getLsbD 1 || w.getLsbD 3) := by
  unfold pte_Leaf.f
  have := bit10 w
  cases h : w.getLsbD 1 <;> cases h3 : w.getLsbD 3 <;> simp_all [bne]
theorem bit208b (w : BitVec 32) : (Go.bits .and .u32 (U w) 208 != 0) = (w.getLsbD 4 || w.getLsbD 6 || w.getLsbD 7) := by
  have := bit208 w
  cases h : w.getLsbD 4 <;> cases h6 : w.getLsbD 6 <;> cases h7 : w.getLsbD 7 <;> simp_all [bne]
def badB (v r wr x u a d : Bool) : Bool := !v || (wr && !r) || (!(r || x) && (u || a || d))
def badW (w : BitVec 32) : Bool := badB (w.getLsbD 0) (w.getLsbD 1) (w.getLsbD 2) (w.getLsbD 3) (w.getLsbD 4) (w.getLsbD 6) (w.getLsbD 7)
theorem bad_eq (w : BitVec 32) : pte_Bad.f (U w) = some (badW w) := by
  unfold pte_Bad.f badW badB
  simp only [leaf_eq, bit1, bit4, bit2, bit208b, Option.bind_some]
  cases w.getLsbD 0 <;> cases w.getLsbD 1 <;> cases w.getLsbD 2 <;> cases w.getLsbD 3 <;> simp
/-- The bit that an access asks for. -/
def askB (r wr x : Bool) (a : Int) : Bool := if a = 1 then x else if a = 2 then r else if a = 3 then wr else false
def mayB (v r wr x u a d : Bool) (acc mode : Int) : Bool := !(badB v r wr x u a d) && (r || x) && askB r wr x acc && (if mode = 0 then u else if mode = 3 then !u else false)
def mayW (w : BitVec 32) (acc mode : Int) : Bool := mayB (w.getLsbD 0) (w.getLsbD 1) (w.getLsbD 2) (w.getLsbD 3) (w.getLsbD 4) (w.getLsbD 6) (w.getLsbD 7) acc mode
theorem may_eq (w : BitVec 32) (acc mode : Int) : pte_May.f (U w) acc mode = some (mayW w acc mode) := by
  have e8 : ((8 : Int) = 0) = False := by simp
  have e2 : ((2 : Int) = 0) = False := by simp
  have e4 : ((4 : Int) = 0) = False := by simp
  have e0 : ((0 : Int) = 0) = True := by simp
  unfold pte_May.f mayW mayB askB
  simp only [leaf_eq, bad_eq, badW, bit2, bit4, bit8, bit16, bit16b, bit0, Option.bind_some, e8, e2, e4, e0, if_true, if_false]
  generalize badB _ _ _ _ _ _ _ = bad
  by_cases h1 : acc = 1
  · subst h1; cases bad <;> cases w.getLsbD 1 <;> cases w.getLsbD 3 <;> cases w.getLsbD 4 <;> by_cases hm : mode = 0 <;> by_cases hm3 : mode = 3 <;> simp_all
  by_cases h2 : acc = 2
  · subst h2; cases bad <;> cases w.getLsbD 1 <;> cases w.getLsbD 3 <;> cases w.getLsbD 4 <;> by_cases hm : mode = 0 <;> by_cases hm3 : mode = 3 <;> simp_all
  by_cases h3 : acc = 3
  · subst h3; cases bad <;> cases w.getLsbD 1 <;> cases w.getLsbD 2 <;> cases w.getLsbD 3 <;> cases w.getLsbD 4 <;> by_cases hm : mode = 0 <;> by_cases hm3 : mode = 3 <;> simp_all
  simp [h1, h2, h3]

theorem clear_bit (w : BitVec 32) (i : Nat) : (w &&& ~~~ 1#32).getLsbD i = (w.getLsbD i && decide (i ≠ 0)) := by
  rw [BitVec.getLsbD_and, BitVec.getLsbD_not]
  by_cases h : i < 32
  · by_cases e : i = 0
    · subst e; simp
    · simp [h, e]
  · simp [BitVec.getLsbD_of_ge w i (by omega)]
theorem flip_bit (w : BitVec 32) (i : Nat) (hi : i < 32) : (w ^^^ 16#32).getLsbD i = (w.getLsbD i ^^ decide (i = 4)) := by
  have : (16#32) = BitVec.twoPow 32 4 := by decide
  rw [BitVec.getLsbD_xor, this, BitVec.getLsbD_twoPow]
  congr 1
  by_cases e : i = 4
  · subst e; rfl
  · have : ¬ 4 = i := fun h => e h.symm
    simp [e, this]
theorem not_may (w : BitVec 32) (a m : Int) : mayW (w &&& ~~~ 1#32) a m = false := by
  unfold mayW mayB badB
  rw [clear_bit w 0]
  simp
theorem may_less (w : BitVec 32) (m : Int) (h : mayW w 3 m = true) : mayW w 2 m = true := by
  revert h
  unfold mayW mayB badB askB
  cases w.getLsbD 0 <;> cases w.getLsbD 1 <;> cases w.getLsbD 2 <;> simp
theorem may_flip (w : BitVec 32) (a : Int) : mayW (w ^^^ 16#32) a 0 = mayW w a 3 := by
  unfold mayW mayB badB askB
  simp only [flip_bit w _ (by decide : 0 < 32), flip_bit w _ (by decide : 1 < 32), flip_bit w _ (by decide : 2 < 32), flip_bit w _ (by decide : 3 < 32), flip_bit w _ (by decide : 4 < 32), flip_bit w _ (by decide : 6 < 32), flip_bit w _ (by decide : 7 < 32)]
  cases w.getLsbD 1 <;> cases w.getLsbD 3 <;> simp
theorem first_true : corrallaw8_first.f 50 = some true := by decide +kernel
theorem round (k : Nat) (w : BitVec 32) (a : Int) (u m : Bool) (i : Int) (h : i < 4) : corrallaw8_PteModes.l0 (k + 1) (U w) a u m i = corrallaw8_PteModes.l0 k (U w) a u m (wrap64 (i + 1)) := by
  have e : BitVec.ofInt 32 1 = 1#32 := rfl
  simp only [corrallaw8_PteModes.l0]
  rw [if_pos h]
  simp only [may_eq, andNot_U, ofInt_U, e, not_may, Option.bind_some]
  cases hs : mayW w 3 i with
  | true => simp [may_less w i hs]
  | false => simp
theorem j0_eq (w : BitVec 32) (a : Int) : corrallaw8_PteModes.j0 50 (U w) a true (mayW w a 3) false = some true := by
  have e : BitVec.ofInt 32 16 = 16#32 := rfl
  show (if false = true then some false else corrallaw8_PteModes.l0 49 (U w) a true (mayW w a 3) 0) = some true
  have w1 : wrap64 (0 + 1) = 1 := by unfold wrap64; omega
  have w2 : wrap64 (1 + 1) = 2 := by unfold wrap64; omega
  have w3 : wrap64 (2 + 1) = 3 := by unfold wrap64; omega
  have w4 : wrap64 (3 + 1) = 4 := by unfold wrap64; omega
  rw [if_neg (by decide), round _ _ _ _ _ _ (by decide), w1, round _ _ _ _ _ _ (by decide), w2, round _ _ _ _ _ _ (by decide), w3, round _ _ _ _ _ _ (by decide), w4]
  show (if (4 : Int) < 4 then _ else if true = true then ((pte_May.f (Go.bits .xor .u32 (U w) 16) a 0).bind fun t136 => some (t136 == mayW w a 3)) else some false) = some true
  rw [if_neg (by decide), if_pos rfl, xor_U, ofInt_U, e, may_eq, may_flip]
  simp
theorem main (w : BitVec 32) (a : Int) : corrallaw8_PteModes.f 50 (U w) a = some true := by
  unfold corrallaw8_PteModes.f
  rw [first_true]
  simp only [Option.bind_some, if_true, may_eq, leaf_eq, bad_eq]
  have hj := j0_eq w a
  have hmm : mayW w a 3 = (mayB (w.getLsbD 0) (w.getLsbD 1) (w.getLsbD 2) (w.getLsbD 3) (w.getLsbD 4) (w.getLsbD 6) (w.getLsbD 7) a 3) := rfl
  cases h0 : mayW w a 0 with
  | true =>
    have hb : badW w = false ∧ (w.getLsbD 1 || w.getLsbD 3) = true ∧ w.getLsbD 4 = true := by
      revert h0; unfold mayW mayB badW
      generalize badB _ _ _ _ _ _ _ = b
      cases b <;> cases (w.getLsbD 1 || w.getLsbD 3) <;> cases w.getLsbD 4 <;> simp
    have h3 : mayW w a 3 = false := by
      unfold mayW mayB; rw [hb.2.2]; simp
    rw [h3] at hj ⊢
    simp only [hb.1, hb.2.1]
    simpa using hj
  | false =>
    cases h3 : mayW w a 3 with
    | false => rw [h3] at hj; simpa using hj
    | true =>
      have hb : badW w = false ∧ (w.getLsbD 1 || w.getLsbD 3) = true := by
        revert h3; unfold mayW mayB badW
        generalize badB _ _ _ _ _ _ _ = b
        cases b <;> cases (w.getLsbD 1 || w.getLsbD 3) <;> simp
      rw [h3] at hj
      simp only [hb.1, hb.2]
      simpa using hj
end PteModesP
theorem PteModes : corrallaw8_PteModes.Pure := by
  intro a0 a1 h0 _
  obtain ⟨w, rfl⟩ := wf_u32 h0
  exact ⟨50, PteModesP.main w a1⟩

end Go.Proofs.Ythpaieglgjjbiaa.Pure
