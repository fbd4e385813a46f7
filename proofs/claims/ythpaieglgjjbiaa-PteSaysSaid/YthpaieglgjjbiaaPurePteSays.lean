/- Any entry of a page table, access and mode: whether it is bad, a leaf, may be used, what it needs, which cause, is what the reference says. -/
import Derived.Test.YthpaieglgjjbiaaQPteSaysx3
import Derived.Test.YthpaieglgjjbiaaBv
set_option linter.unusedSimpArgs false
namespace Go.Proofs.Ythpaieglgjjbiaa.Pure
open Go.RowKit Go.Proofs.Ythpaieglgjjbiaa.QPteSays Go.Proofs.YthpaieglgjjbiaaW.PrintWords Go.Proofs.YthpaieglgjjbiaaW.PrintLast Go.Proofs.Ythpaieglgjjbiaa.Bv
namespace PteSaysP
theorem bit_eq (w : BitVec 32) (i : Nat) (hi : i < 32) (m : Int) (hm : BitVec.ofInt 32 m = BitVec.twoPow 32 i) : (Go.bits .and .u32 (U w) m = 0) = (w.getLsbD i = false) := by
  rw [and_U, ofInt_U, hm, and_bit w i hi]
theorem bit1 (w : BitVec 32) : (Go.bits .and .u32 (U w) 1 = 0) = (w.getLsbD 0 = false) := bit_eq w 0 (by decide) 1 (by decide)
theorem bit2 (w : BitVec 32) : (Go.bits .and .u32 (U w) 2 = 0) = (w.getLsbD 1 = false) := bit_eq w 1 (by decide) 2 (by decide)
theorem bit4 (w : BitVec 32) : (Go.bits .and .u32 (U w) 4 = 0) = (w.getLsbD 2 = false) := bit_eq w 2 (by decide) 4 (by decide)
theorem bit8 (w : BitVec 32) : (Go.bits .and .u32 (U w) 8 = 0) = (w.getLsbD 3 = false) := bit_eq w 3 (by decide) 8 (by decide)
theorem bit16 (w : BitVec 32) : (Go.bits .and .u32 (U w) 16 = 0) = (w.getLsbD 4 = false) := bit_eq w 4 (by decide) 16 (by decide)
theorem bit0 (w : BitVec 32) : (Go.bits .and .u32 (U w) 0 = 0) = True := by
  rw [and_U, ofInt_U]; simp; rfl
theorem bit16b (w : BitVec 32) : (Go.bits .and .u32 (U w) 16 != 0) = w.getLsbD 4 := by
  have := bit16 w
  cases h : w.getLsbD 4 <;> simp_all [bne]
theorem bit208 (w : BitVec 32) : (Go.bits .and .u32 (U w) 208 = 0) = (w.getLsbD 4 = false ∧ w.getLsbD 6 = false ∧ w.getLsbD 7 = false) := by
  rw [and_U, ofInt_U, ← and_bit w 4 (by decide), ← and_bit w 6 (by decide), ← and_bit w 7 (by decide), ← or_zero, ← or_zero, ← BitVec.and_or_distrib_left, ← BitVec.and_or_distrib_left]
  rfl
theorem bit10 (w : BitVec 32) : (Go.bits .and .u32 (U w) 10 = 0) = (w.getLsbD 1 = false ∧ w.getLsbD 3 = false) := by
  rw [and_U, ofInt_U, ← and_bit w 1 (by decide), ← and_bit w 3 (by decide), ← or_zero, ← BitVec.and_or_distrib_left]
  rfl
theorem leaf_eq (w : BitVec 32) : pte_Leaf.f (U w) = some (w.getLsbD 1 || w.getLsbD 3) := by
  unfold pte_Leaf.f
  have := bit10 w
  cases h : w.getLsbD 1 <;> cases h3 : w.getLsbD 3 <;> simp_all [bne]
theorem bit208b (w : BitVec 32) : (Go.bits .and .u32 (U w) 208 != 0) = (w.getLsbD 4 || w.getLsbD 6 || w.getLsbD 7) := by
  have := bit208 w
  cases h : w.getLsbD 4 <;> cases h6 : w.getLsbD 6 <;> cases h7 : w.getLsbD 7 <;> simp_all [bne]
def badB (v r wr x u a d : Bool) : Bool := !v || (wr && !r) || (!(r || x) && (u || a || d))
def badW (w : BitVec 32) : Bool := badB (w.getLsbD 0) (w.getLsbD 1) (w.getLsbD 2) (w.getLsbD 3) (w.getLsbD 4) (w.getLsbD 6) (w.getLsbD 7)
theorem bad_eq (w : BitVec 32) : pte_Bad.f (U w) = some (badW w) := by
  unfold pte_Bad.f badW badB
  simp only [leaf_eq, bit1, bit4, bit2, bit208b, Option.bind_some]
  cases w.getLsbD 0 <;> cases w.getLsbD 1 <;> cases w.getLsbD 2 <;> cases w.getLsbD 3 <;> simp
/-- The bit that an access asks for. -/
def askB (r wr x : Bool) (a : Int) : Bool := if a = 1 then x else if a = 2 then r else if a = 3 then wr else false
def mayB (v r wr x u a d : Bool) (acc mode : Int) : Bool := !(badB v r wr x u a d) && (r || x) && askB r wr x acc && (if mode = 0 then u else if mode = 3 then !u else false)
def mayW (w : BitVec 32) (acc mode : Int) : Bool := mayB (w.getLsbD 0) (w.getLsbD 1) (w.getLsbD 2) (w.getLsbD 3) (w.getLsbD 4) (w.getLsbD 6) (w.getLsbD 7) acc mode
theorem may_eq (w : BitVec 32) (acc mode : Int) : pte_May.f (U w) acc mode = some (mayW w acc mode) := by
  have e8 : ((8 : Int) = 0) = False := by simp
  have e2 : ((2 : Int) = 0) = False := by simp
  have e4 : ((4 : Int) = 0) = False := by simp
  have e0 : ((0 : Int) = 0) = True := by simp
  unfold pte_May.f mayW mayB askB
  simp only [leaf_eq, bad_eq, badW, bit2, bit4, bit8, bit16, bit16b, bit0, Option.bind_some, e8, e2, e4, e0, if_true, if_false]
  generalize badB _ _ _ _ _ _ _ = bad
  by_cases h1 : acc = 1
  · subst h1; cases bad <;> cases w.getLsbD 1 <;> cases w.getLsbD 3 <;> cases w.getLsbD 4 <;> by_cases hm : mode = 0 <;> by_cases hm3 : mode = 3 <;> simp_all
  by_cases h2 : acc = 2
  · subst h2; cases bad <;> cases w.getLsbD 1 <;> cases w.getLsbD 3 <;> cases w.getLsbD 4 <;> by_cases hm : mode = 0 <;> by_cases hm3 : mode = 3 <;> simp_all
  by_cases h3 : acc = 3
  · subst h3; cases bad <;> cases w.getLsbD 1 <;> cases w.getLsbD 2 <;> cases w.getLsbD 3 <;> cases w.getLsbD 4 <;> by_cases hm : mode = 0 <;> by_cases hm3 : mode = 3 <;> simp_all
  simp [h1, h2, h3]

theorem first_true : corrallaw8_first.f 50 = some true := by decide +kernel
theorem leaf6_eq (w : BitVec 32) : corralref6_Leaf.f (U w) = some (w.getLsbD 1 || w.getLsbD 3) := leaf_eq w
theorem bit6 (w : BitVec 32) : (Go.bits .and .u32 (U w) 6 = 4) = (w.getLsbD 2 = true ∧ w.getLsbD 1 = false) := by
  have e6 : BitVec.ofInt 32 6 = 6#32 := rfl
  have e4 : (4 : Int) = U 4#32 := rfl
  rw [and_U, ofInt_U, e6, e4, U_inj]
  apply propext
  have hb : ∀ i : Fin 32, (6#32).getLsbD i = (decide (i.val = 1) || decide (i.val = 2)) := by decide
  have hc : ∀ i : Fin 32, (4#32).getLsbD i = decide (i.val = 2) := by decide
  constructor
  · intro h
    have h2 := congrArg (fun v => v.getLsbD 2) h
    have h1 := congrArg (fun v => v.getLsbD 1) h
    simp only [BitVec.getLsbD_and, hb ⟨2, by decide⟩, hc ⟨2, by decide⟩, hb ⟨1, by decide⟩, hc ⟨1, by decide⟩] at h1 h2
    simp at h1 h2
    exact ⟨h2, h1⟩
  · rintro ⟨h2, h1⟩
    apply BitVec.eq_of_getLsbD_eq
    intro i hi
    rw [BitVec.getLsbD_and, hb ⟨i, hi⟩, hc ⟨i, hi⟩]
    by_cases c2 : i = 2
    · subst c2; simp [h2]
    · by_cases c1 : i = 1
      · subst c1; rw [h1]; rfl
      · simp [c1, c2]
theorem bad6_eq (w : BitVec 32) : corralref6_Bad.f (U w) = some (badW w) := by
  unfold corralref6_Bad.f badW badB
  simp only [leaf6_eq, bit1, bit6, bit208b, Option.bind_some]
  cases w.getLsbD 0 <;> cases w.getLsbD 1 <;> cases w.getLsbD 2 <;> cases w.getLsbD 3 <;> simp
theorem may6_eq (w : BitVec 32) (acc mode : Int) : corralref6_May.f 50 (U w) acc mode = some (mayW w acc mode) := by
  unfold corralref6_May.f mayW mayB askB
  simp only [corralref6_May.j0, leaf6_eq, bad6_eq, badW, bit2, bit4, bit8, bit16b, bit0, Option.bind_some]
  generalize badB _ _ _ _ _ _ _ = bad
  by_cases h1 : acc = 1
  · subst h1; cases bad <;> cases w.getLsbD 1 <;> cases w.getLsbD 3 <;> cases w.getLsbD 4 <;> by_cases hm : mode = 0 <;> by_cases hm3 : mode = 3 <;> simp_all
  by_cases h2 : acc = 2
  · subst h2; cases bad <;> cases w.getLsbD 1 <;> cases w.getLsbD 3 <;> cases w.getLsbD 4 <;> by_cases hm : mode = 0 <;> by_cases hm3 : mode = 3 <;> simp_all
  by_cases h3 : acc = 3
  · subst h3; cases bad <;> cases w.getLsbD 1 <;> cases w.getLsbD 2 <;> cases w.getLsbD 3 <;> cases w.getLsbD 4 <;> by_cases hm : mode = 0 <;> by_cases hm3 : mode = 3 <;> simp_all
  by_cases hm : mode = 0 <;> by_cases hm3 : mode = 3 <;> cases bad <;> cases w.getLsbD 1 <;> cases w.getLsbD 3 <;> simp_all
theorem needs_eq (w : BitVec 32) (a : Int) : pte_Needs.f (U w) a = corralref6_Needs.f (U w) a := by
  unfold pte_Needs.f corralref6_Needs.f
  by_cases h : a = 3
  · have e1 : BitVec.ofInt 32 128 = 128#32 := rfl
    have e2 : BitVec.ofInt 32 64 = 64#32 := rfl
    have e3 : BitVec.ofInt 32 192 = 128#32 ||| 64#32 := rfl
    rw [if_pos h, if_pos h, or_U, or_U, or_U, ofInt_U, ofInt_U, e1, e2, e3, BitVec.or_assoc]
  · rw [if_neg h, if_neg h]
theorem needs_some (w : BitVec 32) (a : Int) : ∃ v, corralref6_Needs.f (U w) a = some v := by
  unfold corralref6_Needs.f; split <;> exact ⟨_, rfl⟩
theorem cause_eq (a : Int) (p : Bool) : pte_Cause.f a p = corralref6_Cause.f a p := rfl
theorem cause_some (a : Int) (p : Bool) : ∃ v, corralref6_Cause.f a p = some v := by
  unfold corralref6_Cause.f; split <;> (try split) <;> (try split) <;> (try split) <;> exact ⟨_, rfl⟩
theorem main (w : BitVec 32) (a m : Int) (p : Bool) : corrallaw8_PteSays.f 50 (U w) a m p = some true := by
  unfold corrallaw8_PteSays.f
  obtain ⟨v, hv⟩ := needs_some w a
  obtain ⟨c, hc⟩ := cause_some a p
  rw [first_true]
  simp only [Option.bind_some, if_true, bad_eq, bad6_eq, leaf_eq, leaf6_eq, may_eq, may6_eq, needs_eq, hv, cause_eq, hc, pte_Page.f, beq_self_eq_true]
end PteSaysP
theorem PteSays : corrallaw8_PteSays.Pure := by
  intro a0 a1 a2 a3 h0 _ _
  obtain ⟨w, rfl⟩ := wf_u32 h0
  exact ⟨50, PteSaysP.main w a1 a2 a3⟩

end Go.Proofs.Ythpaieglgjjbiaa.Pure
