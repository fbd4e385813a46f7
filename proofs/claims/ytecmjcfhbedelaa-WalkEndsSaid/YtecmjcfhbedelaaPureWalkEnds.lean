/- Walked in any memory of at most 64 words (of more nothing is asked), as it asks, it ends behind at most two entries, each marked at most once: at a place, or a fault; marked it needs no more: for every table, mode, address and access. -/
import Derived.Test.YtecmjcfhbedelaaQWalkEndsx4
import Derived.Test.YtecmjcfhbedelaaBv
set_option linter.unusedSimpArgs false
set_option linter.unusedVariables false
namespace Go.Proofs.Ytecmjcfhbedelaa.Pure
open Go.RowKit Go.Proofs.Ytecmjcfhbedelaa.QWalkEnds Go.Proofs.YtecmjcfhbedelaaW.PrintWords Go.Proofs.YtecmjcfhbedelaaW.PrintLast Go.Proofs.YtecmjcfhbedelaaW.PrintMore Go.Proofs.Ytecmjcfhbedelaa.Bv
namespace WalkEndsP
theorem bit_eq (w : BitVec 32) (i : Nat) (hi : i < 32) (m : Int) (hm : BitVec.ofInt 32 m = BitVec.twoPow 32 i) : (Go.bits .and .u32 (U w) m = 0) = (w.getLsbD i = false) := by
  rw [and_U, ofInt_U, hm, and_bit w i hi]
theorem bit1 (w : BitVec 32) : (Go.bits .and .u32 (U w) 1 = 0) = (w.getLsbD 0 = false) := bit_eq w 0 (by decide) 1 (by decide)
theorem bit2 (w : BitVec 32) : (Go.bits .and .u32 (U w) 2 = 0) = (w.getLsbD 1 = false) := bit_eq w 1 (by decide) 2 (by decide)
theorem bit4 (w : BitVec 32) : (Go.bits .and .u32 (U w) 4 = 0) = (w.getLsbD 2 = false) := bit_eq w 2 (by decide) 4 (by decide)
theorem bit8 (w : BitVec 32) : (Go.bits .and .u32 (U w) 8 = 0) = (w.getLsbD 3 = false) := bit_eq w 3 (by decide) 8 (by decide)
theorem bit16 (w : BitVec 32) : (Go.bits .and .u32 (U w) 16 = 0) = (w.getLsbD 4 = false) := bit_eq w 4 (by decide) 16 (by decide)
theorem bit0 (w : BitVec 32) : (Go.bits .and .u32 (U w) 0 = 0) = True := by
  rw [and_U, ofInt_U]; simp; rfl
theorem bit16b (w : BitVec 32) : (Go.bits .and .u32 (U w) 16 != 0) = w.getLsbD 4 := by
  have := bit16 w
  cases h : w.getLsbD 4 <;> simp_all [bne]
theorem bit208 (w : BitVec 32) : (Go.bits .and .u32 (U w) 208 = 0) = (w.getLsbD 4 = false ∧ w.getLsbD 6 = false ∧ w.getLsbD 7 = false) := by
  rw [and_U, ofInt_U, ← and_bit w 4 (by decide), ← and_bit w 6 (by decide), ← and_bit w 7 (by decide), ← or_zero, ← or_zero, ← BitVec.and_or_distrib_left, ← BitVec.and_or_distrib_left]
  rfl
theorem bit10 (w : BitVec 32) : (Go.bits .and .u32 (U w) 10 = 0) = (w.getLsbD 1 = false ∧ w.getLsbD 3 = false) := by
  rw [and_U, ofInt_U, ← and_bit w 1 (by decide), ← and_bit w 3 (by decide), ← or_zero, ← BitVec.and_or_distrib_left]
  rfl
theorem leaf_eq (w : BitVec 32) : pte_Leaf.f (U w) = some (w.getLsbD 1 || w.getLsbD 3) := by
  unfold pte_Leaf.f
  have := bit10 w
  cases h : w.getLsbD 1 <;> cases h3 : w.getLsbD 3 <;> simp_all [bne]
theorem bit208b (w : BitVec 32) : (Go.bits .and .u32 (U w) 208 != 0) = (w.getLsbD 4 || w.getLsbD 6 || w.getLsbD 7) := by
  have := bit208 w
  cases h : w.getLsbD 4 <;> cases h6 : w.getLsbD 6 <;> cases h7 : w.getLsbD 7 <;> simp_all [bne]
def badB (v r wr x u a d : Bool) : Bool := !v || (wr && !r) || (!(r || x) && (u || a || d))
def badW (w : BitVec 32) : Bool := badB (w.getLsbD 0) (w.getLsbD 1) (w.getLsbD 2) (w.getLsbD 3) (w.getLsbD 4) (w.getLsbD 6) (w.getLsbD 7)
theorem bad_eq (w : BitVec 32) : pte_Bad.f (U w) = some (badW w) := by
  unfold pte_Bad.f badW badB
  simp only [leaf_eq, bit1, bit4, bit2, bit208b, Option.bind_some]
  cases w.getLsbD 0 <;> cases w.getLsbD 1 <;> cases w.getLsbD 2 <;> cases w.getLsbD 3 <;> simp
/-- The bit that an access asks for. -/
def askB (r wr x : Bool) (a : Int) : Bool := if a = 1 then x else if a = 2 then r else if a = 3 then wr else false
def mayB (v r wr x u a d : Bool) (acc mode : Int) : Bool := !(badB v r wr x u a d) && (r || x) && askB r wr x acc && (if mode = 0 then u else if mode = 3 then !u else false)
def mayW (w : BitVec 32) (acc mode : Int) : Bool := mayB (w.getLsbD 0) (w.getLsbD 1) (w.getLsbD 2) (w.getLsbD 3) (w.getLsbD 4) (w.getLsbD 6) (w.getLsbD 7) acc mode
theorem may_eq (w : BitVec 32) (acc mode : Int) : pte_May.f (U w) acc mode = some (mayW w acc mode) := by
  have e8 : ((8 : Int) = 0) = False := by simp
  have e2 : ((2 : Int) = 0) = False := by simp
  have e4 : ((4 : Int) = 0) = False := by simp
  have e0 : ((0 : Int) = 0) = True := by simp
  unfold pte_May.f mayW mayB askB
  simp only [leaf_eq, bad_eq, badW, bit2, bit4, bit8, bit16, bit16b, bit0, Option.bind_some, e8, e2, e4, e0, if_true, if_false]
  generalize badB _ _ _ _ _ _ _ = bad
  by_cases h1 : acc = 1
  · subst h1; cases bad <;> cases w.getLsbD 1 <;> cases w.getLsbD 3 <;> cases w.getLsbD 4 <;> by_cases hm : mode = 0 <;> by_cases hm3 : mode = 3 <;> simp_all
  by_cases h2 : acc = 2
  · subst h2; cases bad <;> cases w.getLsbD 1 <;> cases w.getLsbD 3 <;> cases w.getLsbD 4 <;> by_cases hm : mode = 0 <;> by_cases hm3 : mode = 3 <;> simp_all
  by_cases h3 : acc = 3
  · subst h3; cases bad <;> cases w.getLsbD 1 <;> cases w.getLsbD 2 <;> cases w.getLsbD 3 <;> cases w.getLsbD 4 <;> by_cases hm : mode = 0 <;> by_cases hm3 : mode = 3 <;> simp_all
  simp [h1, h2, h3]

theorem mask_eq (n : Int) : word_mask.f n = some (U (maskB n)) := by
  unfold word_mask.f maskB
  by_cases h : n ≥ 32
  · rw [if_pos h, if_pos h]; rfl
  · rw [if_neg h, if_neg h, shl_U, mod_U]
    have e1 : BitVec.ofInt 32 1 = 1#32 := rfl
    have e2 : (mx n 0).toNat = n.toNat := by unfold mx; split <;> omega
    congr 2
    rw [e2, e1, Bv.ofInt_sub, ofInt_U, e1]
def makeB (p f : BitVec 32) : BitVec 32 := (p &&& maskB 22) <<< 10 ||| (f &&& maskB 10)
theorem pack2 (p f : BitVec 32) (k : Nat) : word_Pack.f (k + 3) [(⟨10, 22, U p⟩ : S87), (⟨0, 10, U f⟩ : S87)] = some (U (makeB p f)) := by
  have r0 : rd_T87 [(⟨10, 22, U p⟩ : S87), (⟨0, 10, U f⟩ : S87)] 0 = ⟨10, 22, U p⟩ := rfl
  have r1 : rd_T87 [(⟨10, 22, U p⟩ : S87), (⟨0, 10, U f⟩ : S87)] 1 = ⟨0, 10, U f⟩ := rfl
  have w0 : wrap64 (0 + 1) = 1 := by unfold wrap64; omega
  have w1 : wrap64 (1 + 1) = 2 := by unfold wrap64; omega
  have e0 : BitVec.ofInt 32 0 = 0#32 := rfl
  have t10 : (10 : Int).toNat = 10 := rfl
  have t0 : (0 : Int).toNat = 0 := rfl
  unfold word_Pack.f
  simp only [word_Pack.l0, List.length_cons, List.length_nil, r0, mask_eq, Option.bind_some, w0]
  simp only [r1, w1, mask_eq, Option.bind_some, and_U, or_U, shl_U, ofInt_U, e0, t10, t0]
  simp [makeB]
theorem makeB_low (p f : BitVec 32) (i : Nat) (hi : i < 10) : (makeB p f).getLsbD i = f.getLsbD i := by
  unfold makeB
  rw [BitVec.getLsbD_or, BitVec.getLsbD_shiftLeft, BitVec.getLsbD_and, BitVec.getLsbD_and, maskB_bit, maskB_bit]
  have a1 : i < 32 := by omega
  have a2 : (i : Int) < 10 := by omega
  simp [hi, a1, a2]
theorem makeB_high (p f : BitVec 32) (i : Nat) (hi : 10 ≤ i) : (makeB p f).getLsbD i = (decide (i < 32) && p.getLsbD (i - 10)) := by
  unfold makeB
  rw [BitVec.getLsbD_or, BitVec.getLsbD_shiftLeft, BitVec.getLsbD_and, BitVec.getLsbD_and, maskB_bit, maskB_bit]
  have a1 : ¬ i < 10 := by omega
  have a2 : ¬ (i : Int) < 10 := by omega
  by_cases c : i < 32
  · have a3 : ((i - 10 : Nat) : Int) < 22 := by omega
    have a4 : i - 10 < 32 := by omega
    simp [c, a1, a2, a3, a4]
  · simp [c, a2]
/-- The flags laid over one another. -/
def orAll (a : BitVec 32) (l : List (BitVec 32)) : BitVec 32 := l.foldl (· ||| ·) a
theorem rd_map (l : List (BitVec 32)) (i : Nat) (h : i < l.length) : rd (l.map U) (i : Int) = U l[i] := by
  unfold rd
  simp [h]
theorem wrap_succ (i : Nat) (h : i < 4611686018427387904) : wrap64 ((i : Int) + 1) = ((i + 1 : Nat) : Int) := by unfold wrap64; omega
theorem make_loop (p : BitVec 32) (l : List (BitVec 32)) (hl : l.length ≤ 4611686018427387904) (d : Nat) : ∀ (k i : Nat) (a : BitVec 32), i + d = l.length → d + 4 ≤ k →
    pte_Make.l0 k (U p) (U a) (l.map U) (l.length : Int) (i : Int) = some (U (makeB p (orAll a (l.drop i)))) := by
  induction d with
  | zero =>
    intro k i a hi hk
    obtain ⟨k, rfl⟩ : ∃ m, k = m + 4 := ⟨k - 4, by omega⟩
    simp only [pte_Make.l0]
    rw [if_neg (by omega), pack2, List.drop_of_length_le (by omega)]
    rfl
  | succ d ih =>
    intro k i a hi hk
    obtain ⟨k, rfl⟩ : ∃ m, k = m + 1 := ⟨k - 1, by omega⟩
    have hlt : i < l.length := by omega
    simp only [pte_Make.l0]
    rw [if_pos (by omega), if_pos (by omega), if_pos (by rw [List.length_map]; omega), rd_map l i hlt, or_U, ofInt_U, ofInt_U, wrap_succ i (by omega), ih k (i + 1) _ (by omega) (by omega)]
    rw [List.drop_eq_getElem_cons hlt]
    rfl
theorem make_eq (p : BitVec 32) (l : List (BitVec 32)) (hl : l.length ≤ 4611686018427387904) (k : Nat) (hk : l.length + 4 ≤ k) :
    pte_Make.f k (U p) (l.map U) = some (U (makeB p (orAll 0#32 l))) := by
  have h0 : U 0#32 = 0 := rfl
  have := make_loop p l hl l.length k 0 0#32 (by omega) (by omega)
  rw [h0] at this
  unfold pte_Make.f
  rw [List.length_map]
  simpa using this

def bitsB (w : BitVec 32) (lo n : Int) : BitVec 32 := if lo < 0 then 0#32 else (w >>> lo.toNat) &&& maskB n
theorem bitsB_bit (w : BitVec 32) (lo n : Int) (i : Nat) : (bitsB w lo n).getLsbD i = (decide (0 ≤ lo) && (decide ((i : Int) < n) && w.getLsbD (lo.toNat + i))) := by
  unfold bitsB
  by_cases h : lo < 0
  · rw [if_pos h]; have : ¬ 0 ≤ lo := by omega
    simp [this]
  · rw [if_neg h, BitVec.getLsbD_and, maskB_bit, BitVec.getLsbD_ushiftRight]
    have h0 : 0 ≤ lo := by omega
    by_cases hi : i < 32
    · simp [hi, h0, Bool.and_comm]
    · rw [BitVec.getLsbD_of_ge w (lo.toNat + i) (by omega)]; simp
theorem bits_eq (w : BitVec 32) (lo n : Int) : word_Bits.f (U w) lo n = some (U (bitsB w lo n)) := by
  have h0 : (0 : Int) = U 0#32 := rfl
  unfold word_Bits.f
  by_cases h1 : lo < 0
  · rw [if_pos h1]; unfold bitsB; rw [if_pos h1]; rfl
  rw [if_neg h1]
  by_cases h2 : lo ≥ 32
  · rw [if_pos h2]; unfold bitsB; rw [if_neg h1, BitVec.ushiftRight_eq_zero (by omega)]; simp; rfl
  rw [if_neg h2]
  by_cases h3 : n < 1
  · rw [if_pos h3]
    have : bitsB w lo n = 0#32 := by
      apply BitVec.eq_of_getLsbD_eq; intro i hi; rw [bitsB_bit]
      have : ¬ (i : Int) < n := by omega
      simp [this]
    rw [this]; rfl
  rw [if_neg h3, if_pos (by omega)]
  simp only [mask_eq, Option.bind_some, shr_U, and_U, ofInt_U]
  unfold bitsB; rw [if_neg h1]

/-- What an access needs. -/
def needB (e : BitVec 32) (a : Int) : BitVec 32 := if a = 3 then e ||| 128#32 ||| 64#32 else e ||| 64#32
theorem needs_eq (e : BitVec 32) (a : Int) : pte_Needs.f (U e) a = some (U (needB e a)) := by
  have e1 : BitVec.ofInt 32 128 = 128#32 := rfl
  have e2 : BitVec.ofInt 32 64 = 64#32 := rfl
  unfold pte_Needs.f needB
  by_cases h : a = 3
  · rw [if_pos h, if_pos h, or_U, or_U, ofInt_U, ofInt_U, e1, e2]
  · rw [if_neg h, if_neg h, or_U, ofInt_U, e2]
theorem page_eq (e : BitVec 32) : pte_Page.f (U e) = some (U (e >>> 10)) := by
  unfold pte_Page.f; rw [← div_U e 10]; rfl
theorem b64 (i : Nat) : (64#32).getLsbD i = decide (i = 6) := by
  have : (64#32) = BitVec.twoPow 32 6 := by decide
  rw [this, BitVec.getLsbD_twoPow]
  by_cases c : i = 6
  · subst c; rfl
  · have : ¬ 6 = i := fun h => c h.symm
    simp [c, this]
theorem b128 (i : Nat) : (128#32).getLsbD i = decide (i = 7) := by
  have : (128#32) = BitVec.twoPow 32 7 := by decide
  rw [this, BitVec.getLsbD_twoPow]
  by_cases c : i = 7
  · subst c; rfl
  · have : ¬ 7 = i := fun h => c h.symm
    simp [c, this]
theorem needB_bit (e : BitVec 32) (a : Int) (i : Nat) : (needB e a).getLsbD i = (e.getLsbD i || decide (i = 6) || (decide (a = 3) && decide (i = 7))) := by
  unfold needB
  by_cases h : a = 3
  · rw [if_pos h, BitVec.getLsbD_or, BitVec.getLsbD_or, b64, b128]
    cases e.getLsbD i <;> by_cases c : i = 6 <;> by_cases c7 : i = 7 <;> simp [h, c, c7]
  · rw [if_neg h, BitVec.getLsbD_or, b64]
    simp [h]
theorem needB_again (e : BitVec 32) (a : Int) : needB (needB e a) a = needB e a := by
  apply BitVec.eq_of_getLsbD_eq; intro i _
  rw [needB_bit, needB_bit]
  cases e.getLsbD i <;> cases decide (i = 6) <;> cases decide (a = 3) <;> cases decide (i = 7) <;> rfl

theorem wrap_u64 (n : Int) : IntKind.u64.wrap n = n % 18446744073709551616 := by
  simp [IntKind.wrap, IntKind.bits, IntKind.signed]
theorem wraps_u64 (n : Int) (h₀ : 0 ≤ n) (h₁ : n < 2 ^ 64) : IntKind.u64.wrap n = n := by rw [wrap_u64]; omega
theorem wraps_u32 (n : Int) (h₀ : 0 ≤ n) (h₁ : n < 2 ^ 32) : IntKind.u32.wrap n = n := by rw [IntKind.wrap_u32]; omega
theorem join64_12 (x y : Int) (hx₀ : 0 ≤ x) (hx : x % 4096 = 0) (hx₁ : x < 18446744073709551616) (h₀ : 0 ≤ y) (h₁ : y < 4096) : Go.bits .or .u64 x y = x + y :=
  bits_join .u64 64 (by decide) wraps_u64 12 x y hx₀ hx hx₁ h₀ h₁ (by omega)
theorem join64_22 (x y : Int) (hx₀ : 0 ≤ x) (hx : x % 4194304 = 0) (hx₁ : x < 18446744073709551616) (h₀ : 0 ≤ y) (h₁ : y < 4194304) : Go.bits .or .u64 x y = x + y :=
  bits_join .u64 64 (by decide) wraps_u64 22 x y hx₀ hx hx₁ h₀ h₁ (by omega)
theorem join32_12 (x y : Int) (hx₀ : 0 ≤ x) (hx : x % 4096 = 0) (hx₁ : x < 4294967296) (h₀ : 0 ≤ y) (h₁ : y < 4096) : Go.bits .or .u32 x y = x + y :=
  bits_join .u32 32 (by decide) wraps_u32 12 x y hx₀ hx hx₁ h₀ h₁ (by omega)
theorem join32_22 (x y : Int) (hx₀ : 0 ≤ x) (hx : x % 4194304 = 0) (hx₁ : x < 4294967296) (h₀ : 0 ≤ y) (h₁ : y < 4194304) : Go.bits .or .u32 x y = x + y :=
  bits_join .u32 32 (by decide) wraps_u32 22 x y hx₀ hx hx₁ h₀ h₁ (by omega)
/-- The number of some bits. -/
theorem U_bits (w : BitVec 32) (lo n : Nat) : U (bitsB w (lo : Int) (n : Int)) = U w / 2 ^ lo % 2 ^ n := by
  have e : bitsB w (lo : Int) (n : Int) = BitVec.ofNat 32 (w.toNat / 2 ^ lo % 2 ^ n) := by
    apply BitVec.eq_of_getLsbD_eq; intro i hi
    rw [bitsB_bit, BitVec.getLsbD_ofNat, Nat.testBit_mod_two_pow, Nat.testBit_div_two_pow, decide_eq_true hi, decide_eq_true (show (0 : Int) ≤ (lo : Int) by omega), Int.toNat_natCast]
    have : decide ((i : Int) < (n : Int)) = decide (i < n) := decide_eq_decide.2 (by omega)
    rw [this]
    simp only [Bool.true_and, BitVec.getLsbD, Nat.add_comm]
  have hl : w.toNat / 2 ^ lo % 2 ^ n < 2 ^ 32 := by
    have h1 := w.isLt
    have h2 : w.toNat / 2 ^ lo % 2 ^ n ≤ w.toNat / 2 ^ lo := Nat.mod_le _ _
    have h3 : w.toNat / 2 ^ lo ≤ w.toNat := Nat.div_le_self _ _
    omega
  rw [e]
  unfold U
  rw [BitVec.toNat_ofNat, Nat.mod_eq_of_lt hl]
  simp
def causeI (a : Int) (p : Bool) : Int := if a = 1 then (if p = true then 12 else 1) else if a = 2 then (if p = true then 13 else 5) else if a = 3 then (if p = true then 15 else 7) else 2
theorem cause_eq (a : Int) (p : Bool) : pte_Cause.f a p = some (causeI a p) := by
  unfold pte_Cause.f causeI
  by_cases h1 : a = 1
  · simp only [h1, if_true]; split <;> rfl
  by_cases h2 : a = 2
  · simp only [h2]; cases p <;> rfl
  by_cases h3 : a = 3
  · simp only [h3]; cases p <;> rfl
  simp only [if_neg h1, if_neg h2, if_neg h3]
/-- What comes next: its kind, a place, an entry's place, its value, a cause. -/
abbrev Stp := Int × Int × Int × Int × Int
def faultR (acc : Int) (p : Bool) : Stp := (2, 0, 0, 0, causeI acc p)
theorem fault_eq (acc : Int) (p : Bool) : walk_fault.f acc p = some (faultR acc p) := by
  unfold walk_fault.f; rw [cause_eq]; rfl
/-- What comes of a leaf. -/
def leafR (e : BitVec 32) (at_ mode : Int) (va : BitVec 32) (acc lv : Int) : Stp :=
  if mayW e acc mode = true ∧ ¬ (lv > 0 ∧ U e / 1024 % 1024 ≠ 0) then
    (if needB e acc = e then (if U e / 1024 * 4096 + U va % 2 ^ (12 + 10 * lv).toNat < 4294967296 then (1, U e / 1024 * 4096 + U va % 2 ^ (12 + 10 * lv).toNat, 0, 0, 0) else faultR acc false)
    else (4, 0, at_, U (needB e acc), 0))
  else faultR acc true
theorem leaf_j0 (e va : BitVec 32) (at_ mode acc lv : Int) (hlv : lv = 0 ∨ lv = 1) (k : Nat) (hm : mayW e acc mode = true) (hal : ¬ (lv > 0 ∧ U e / 1024 % 1024 ≠ 0)) :
    walk_leaf.j0 (k + 1) (U e) at_ (U va) acc (12 + 10 * lv) (U e / 1024) false = some (leafR e at_ mode va acc lv) := by
  have hu := U_lt e
  have h0 := U_nonneg e
  have hb : word_Bits.f (U va) 0 (12 + 10 * lv) = some (U va % 2 ^ (12 + 10 * lv).toNat) := by
    rcases hlv with rfl | rfl
    · rw [bits_eq, show bitsB va 0 (12 + 10 * 0) = bitsB va ((0 : Nat) : Int) ((12 : Nat) : Int) from rfl, U_bits]; simp
    · rw [bits_eq, show bitsB va 0 (12 + 10 * 1) = bitsB va ((0 : Nat) : Int) ((22 : Nat) : Int) from rfl, U_bits]; simp
  have hv := U_nonneg va
  simp only [walk_leaf.j0]
  rw [if_neg (by decide), needs_eq, Option.bind_some]
  have hR : leafR e at_ mode va acc lv = (if needB e acc = e then (if U e / 1024 * 4096 + U va % 2 ^ (12 + 10 * lv).toNat < 4294967296 then (1, U e / 1024 * 4096 + U va % 2 ^ (12 + 10 * lv).toNat, 0, 0, 0) else faultR acc false) else (4, 0, at_, U (needB e acc), 0)) := if_pos ⟨hm, hal⟩
  rw [hR]
  by_cases hn : needB e acc = e
  · rw [if_pos (by rw [hn]), if_pos hn, hb, Option.bind_some]
    have hw1 : IntKind.u64.wrap (U e / 1024) = U e / 1024 := by rw [wrap_u64]; omega
    have hw2 : IntKind.u64.wrap (U e / 1024 * 4096) = U e / 1024 * 4096 := by rw [wrap_u64]; omega
    have hjoin : Go.bits .or .u64 (IntKind.u64.wrap (IntKind.u64.wrap (U e / 1024) * 4096)) (IntKind.u64.wrap (U va % 2 ^ (12 + 10 * lv).toNat)) = U e / 1024 * 4096 + U va % 2 ^ (12 + 10 * lv).toNat := by
      rw [hw1, hw2]
      rcases hlv with rfl | rfl
      · have e12 : (2 : Int) ^ (12 + 10 * (0 : Int)).toNat = 4096 := by decide
        rw [e12, show IntKind.u64.wrap (U va % 4096) = U va % 4096 by rw [wrap_u64]; omega]
        exact join64_12 _ _ (by omega) (by omega) (by omega) (by omega) (by omega)
      · have e22 : (2 : Int) ^ (12 + 10 * (1 : Int)).toNat = 4194304 := by decide
        have hz : U e / 1024 % 1024 = 0 := by
          by_cases c : U e / 1024 % 1024 = 0
          · exact c
          · exact absurd ⟨by decide, c⟩ hal
        rw [e22, show IntKind.u64.wrap (U va % 4194304) = U va % 4194304 by rw [wrap_u64]; omega]
        exact join64_22 _ _ (by omega) (by omega) (by omega) (by omega) (by omega)
    have hpos : 0 ≤ U va % 2 ^ (12 + 10 * lv).toNat := by
      rcases hlv with rfl | rfl
      · have e12 : (2 : Int) ^ (12 + 10 * (0 : Int)).toNat = 4096 := by decide
        rw [e12]; omega
      · have e22 : (2 : Int) ^ (12 + 10 * (1 : Int)).toNat = 4194304 := by decide
        rw [e22]; omega
    rw [hjoin]
    generalize U va % 2 ^ (12 + 10 * lv).toNat = q at *
    by_cases c : U e / 1024 * 4096 + q < 4294967296
    · rw [if_pos (by omega), if_pos c, show (U e / 1024 * 4096 + q) % 4294967296 = U e / 1024 * 4096 + q by omega]
    · rw [if_neg (by omega), if_neg c, fault_eq]; rfl
  · rw [if_neg (fun h => hn ((U_inj _ _).1 h)), if_neg hn]
theorem leaf_step (e va : BitVec 32) (at_ mode acc lv : Int) (hlv : lv = 0 ∨ lv = 1) (k : Nat) (hk : 1 ≤ k) : walk_leaf.f k (U e) at_ mode (U va) acc lv = some (leafR e at_ mode va acc lv) := by
  obtain ⟨k, rfl⟩ : ∃ m, k = m + 1 := ⟨k - 1, by omega⟩
  have hu := U_lt e
  have h0 := U_nonneg e
  have hbad : walk_leaf.j0 (k + 1) (U e) at_ (U va) acc (12 + 10 * lv) (U e / 1024) true = some (faultR acc true) := by
    simp only [walk_leaf.j0]; rw [if_pos trivial, fault_eq]; rfl
  have ep : pte_Page.f (U e) = some (U e / 1024) := rfl
  have ew : wrap64 (12 + wrap64 (10 * lv)) = 12 + 10 * lv := by rcases hlv with rfl | rfl <;> (unfold wrap64; omega)
  have hb : word_Bits.f (U e / 1024) 0 10 = some (U e / 1024 % 1024) := by
    have : U e / (1024 : Int) = U (e >>> 10) := by rw [← div_U e 10]; rfl
    rw [this, bits_eq, show bitsB (e >>> 10) 0 10 = bitsB (e >>> 10) ((0 : Nat) : Int) ((10 : Nat) : Int) from rfl, U_bits]; simp
  unfold walk_leaf.f
  rw [ep, Option.bind_some, may_eq, Option.bind_some, ew]
  cases hm : mayW e acc mode with
  | false =>
    rw [if_neg (by decide), hbad]
    unfold leafR; rw [if_neg (by rw [hm]; simp)]
  | true =>
    rw [if_pos rfl]
    by_cases hl : lv > 0
    · rw [if_pos hl, hb, Option.bind_some]
      by_cases hz : U e / 1024 % 1024 = 0
      · rw [show (U e / 1024 % 1024 != 0) = false by rw [hz]; rfl]
        exact leaf_j0 e va at_ mode acc lv hlv k hm (fun h => h.2 hz)
      · rw [show (U e / 1024 % 1024 != 0) = true by simpa [bne] using hz, hbad]
        unfold leafR; rw [if_neg (fun h => h.2 ⟨hl, hz⟩)]
    · rw [if_neg hl]
      exact leaf_j0 e va at_ mode acc lv hlv k hm (fun h => hl h.1)
/-- Where an entry lies. -/
def atI (t : Int) (va : BitVec 32) (lv : Int) : Int := t * 4096 + 4 * (U va / 2 ^ (12 + 10 * lv).toNat % 1024)
theorem at_bd (t : Int) (h0 : 0 ≤ t) (h1 : t < 4194304) (va : BitVec 32) (lv : Int) (hlv : lv = 0 ∨ lv = 1) : 0 ≤ atI t va lv ∧ atI t va lv < 17179873280 := by
  unfold atI; rcases hlv with rfl | rfl <;> omega
/-- Does an entry lie in memory? -/
def inMem (a bytes : Int) : Prop := a < 4294967296 ∧ a + 4 ≤ mx bytes 0
instance (a bytes : Int) : Decidable (inMem a bytes) := inferInstanceAs (Decidable (_ ∧ _))
def leafW (w : BitVec 32) : Bool := w.getLsbD 1 || w.getLsbD 3
/-- What comes of the entry that was read at a place, at a level; 'next': where it leads on. -/
def entR (mode : Int) (va : BitVec 32) (acc lv a : Int) (e : S52) (next : BitVec 32 → Stp × Int) : Stp × Int :=
  if e.f0 = a ∧ badW (BitVec.ofInt 32 e.f1) = false then
    (if leafW (BitVec.ofInt 32 e.f1) = true then (leafR (BitVec.ofInt 32 e.f1) a mode va acc lv, 2 - lv) else next (BitVec.ofInt 32 e.f1))
  else (faultR acc true, 2 - lv)
def lv0R (mode : Int) (va : BitVec 32) (acc bytes : Int) (l : List S52) (t : Int) : Stp × Int :=
  if inMem (atI t va 0) bytes then
    (if l.length = 1 then ((3, 0, atI t va 0, 0, 0), 1) else entR mode va acc 0 (atI t va 0) (l.getD 1 z52) (fun _ => (faultR acc true, 2)))
  else (faultR acc false, 1)
def lv1R (mode : Int) (va : BitVec 32) (acc bytes : Int) (l : List S52) (t : Int) : Stp × Int :=
  if inMem (atI t va 1) bytes then
    (if l.length = 0 then ((3, 0, atI t va 1, 0, 0), 0) else entR mode va acc 1 (atI t va 1) (l.getD 0 z52) (fun v => lv0R mode va acc bytes l (U v / 1024)))
  else (faultR acc false, 0)
def flat (r : Stp × Int) : Int × Int × Int × Int × Int × Int := (r.1.1, r.1.2.1, r.1.2.2.1, r.1.2.2.2.1, r.1.2.2.2.2, r.2)
theorem at_eq (t : Int) (h0 : 0 ≤ t) (h1 : t < 4194304) (va : BitVec 32) (lv : Int) (hlv : lv = 0 ∨ lv = 1) :
    word_Bits.f (U va) (wrap64 (12 + wrap64 (10 * lv))) 10 = some (U va / 2 ^ (12 + 10 * lv).toNat % 1024) ∧
    (IntKind.u64.wrap ((IntKind.u64.wrap ((IntKind.u64.wrap (t)) * 4096)) + (IntKind.u64.wrap (4 * (IntKind.u64.wrap (U va / 2 ^ (12 + 10 * lv).toNat % 1024)))))) = atI t va lv := by
  have hv := U_nonneg va
  have hv2 := U_lt va
  constructor
  · rcases hlv with rfl | rfl
    · have : wrap64 (12 + wrap64 (10 * 0)) = 12 := by unfold wrap64; omega
      rw [this, bits_eq, show bitsB va 12 10 = bitsB va ((12 : Nat) : Int) ((10 : Nat) : Int) from rfl, U_bits]; simp
    · have : wrap64 (12 + wrap64 (10 * 1)) = 22 := by unfold wrap64; omega
      rw [this, bits_eq, show bitsB va 22 10 = bitsB va ((22 : Nat) : Int) ((10 : Nat) : Int) from rfl, U_bits]; simp
  · unfold atI
    rcases hlv with rfl | rfl
    · have e12 : (2 : Int) ^ (12 + 10 * (0 : Int)).toNat = 4096 := by decide
      rw [e12]; simp only [wrap_u64]; omega
    · have e22 : (2 : Int) ^ (12 + 10 * (1 : Int)).toNat = 4194304 := by decide
      rw [e22]; simp only [wrap_u64]; omega
theorem fault6 (acc : Int) (p : Bool) (u : Int) : ((walk_fault.f acc p).bind fun bt => some (bt.1, bt.2.1, bt.2.2.1, bt.2.2.2.1, bt.2.2.2.2, u)) = some (flat (faultR acc p, u)) := by
  rw [fault_eq]; rfl
/-- A row of entries whose values are words. -/
def Words (l : List S52) : Prop := ∀ e ∈ l, ∃ v : BitVec 32, e.f1 = U v
theorem getD_word {l : List S52} (h : Words l) (i : Nat) : ∃ v : BitVec 32, (l.getD i z52).f1 = U v := by
  by_cases c : i < l.length
  · rw [List.getD_eq_getElem?_getD, List.getElem?_eq_getElem c]; exact h _ (List.getElem_mem c)
  · rw [List.getD_eq_getElem?_getD, List.getElem?_eq_none (by omega)]; exact ⟨0#32, rfl⟩
theorem ent_j2 (mode : Int) (va : BitVec 32) (acc bytes : Int) (l : List S52) (lv a : Int) (hlv : lv = 0 ∨ lv = 1) (e : S52) (hv : ∃ v : BitVec 32, e.f1 = U v) (next : BitVec 32 → Stp × Int) (k : Nat) (hk : 1 ≤ k)
    (a' : Int) (ha : a' % 4294967296 = a)
    (hnext : ∀ v : BitVec 32, walk_next.l0 k mode (U va) acc bytes l (U v / 1024) (wrap64 (lv - 1)) = some (flat (next v))) :
    (if e.f0 = a then (pte_Bad.f e.f1).bind fun t145 => walk_next.j2 (k + 1) mode (U va) acc bytes l lv (wrap64 (1 - lv)) a' e.f1 t145 else walk_next.j2 (k + 1) mode (U va) acc bytes l lv (wrap64 (1 - lv)) a' e.f1 true) = some (flat (entR mode va acc lv a e next)) := by
  obtain ⟨v, hv⟩ := hv
  have eu : wrap64 (wrap64 (1 - lv) + 1) = 2 - lv := by rcases hlv with rfl | rfl <;> (unfold wrap64; omega)
  have hbad : walk_next.j2 (k + 1) mode (U va) acc bytes l lv (wrap64 (1 - lv)) a' e.f1 true = some (flat (faultR acc true, 2 - lv)) := by
    simp only [walk_next.j2]; rw [if_pos trivial, eu, fault6]
  unfold entR
  rw [hv] at hbad ⊢
  rw [ofInt_U]
  by_cases c : e.f0 = a
  · rw [if_pos c, bad_eq, Option.bind_some]
    cases hb : badW v with
    | true => rw [hbad, if_neg (by simp)]
    | false =>
      rw [if_pos ⟨c, rfl⟩]
      simp only [walk_next.j2]
      rw [if_neg (by decide), leaf_eq, Option.bind_some, ha, eu]
      unfold leafW
      cases hl : (v.getLsbD 1 || v.getLsbD 3) with
      | true => rw [if_pos rfl, if_pos rfl, leaf_step v va a mode acc lv hlv k hk, Option.bind_some]; rfl
      | false =>
        rw [if_neg (by decide), if_neg (by decide), show pte_Page.f (U v) = some (U v / 1024) from rfl, Option.bind_some]
        exact hnext v
  · rw [if_neg c, hbad, if_neg (fun h => c h.1)]
theorem lv_end (mode : Int) (va : BitVec 32) (acc bytes : Int) (l : List S52) (t : Int) (k : Nat) : walk_next.l0 (k + 1) mode (U va) acc bytes l t (-1) = some (flat (faultR acc true, 2)) := by
  simp only [walk_next.l0]; rw [if_neg (by decide), fault6]
theorem wr64 (x : Int) (h0 : 0 ≤ x) (h : x < 17179873290) : IntKind.u64.wrap (x + 4) = x + 4 := by rw [wrap_u64]; omega
theorem mxw (b : Int) (h : b ≤ 9223372036854775807) : IntKind.u64.wrap (mx b 0) = mx b 0 := by rw [wrap_u64]; unfold mx; split <;> omega
theorem lv_step (mode : Int) (va : BitVec 32) (acc bytes : Int) (hb : bytes ≤ 9223372036854775807) (l : List S52) (hl : Words l) (t : Int) (h0 : 0 ≤ t) (h1 : t < 4194304) (lv : Int) (hlv : lv = 0 ∨ lv = 1) (hlen : 1 - lv ≤ l.length)
    (next : BitVec 32 → Stp × Int) (k : Nat) (hk : 1 ≤ k) (hnext : ∀ v : BitVec 32, walk_next.l0 k mode (U va) acc bytes l (U v / 1024) (wrap64 (lv - 1)) = some (flat (next v))) :
    walk_next.l0 (k + 3) mode (U va) acc bytes l t lv = some (flat (if inMem (atI t va lv) bytes then (if (l.length : Int) = 1 - lv then ((3, 0, atI t va lv, 0, 0), 1 - lv) else entR mode va acc lv (atI t va lv) (l.getD (1 - lv).toNat z52) next) else (faultR acc false, 1 - lv))) := by
  obtain ⟨e1, e2⟩ := at_eq t h0 h1 va lv hlv
  obtain ⟨b0, b1⟩ := at_bd t h0 h1 va lv hlv
  have eu : wrap64 (1 - lv) = 1 - lv := by rcases hlv with rfl | rfl <;> (unfold wrap64; omega)
  have hf : ∀ x18, walk_next.j1 (k + 2) mode (U va) acc bytes l lv (wrap64 (1 - lv)) x18 true = some (flat (faultR acc false, 1 - lv)) := by
    intro x18; simp only [walk_next.j1]; rw [if_pos trivial, fault6, eu]
  rw [walk_next.l0.eq_2]
  rw [if_pos (by omega), e1, Option.bind_some, e2, mxw bytes hb, wr64 _ b0 (by omega)]
  by_cases c1 : atI t va lv < 4294967296
  · rw [if_pos (by omega)]
    by_cases c2 : atI t va lv + 4 > mx bytes 0
    · rw [decide_eq_true c2, hf, if_neg (fun h => by have := h.2; omega)]
    · rw [decide_eq_false c2, if_pos (show inMem _ _ from ⟨c1, by omega⟩)]
      rw [walk_next.j1.eq_2]
      have em : atI t va lv % 4294967296 = atI t va lv := by omega
      rw [if_neg (by decide), eu, em]
      by_cases c3 : (l.length : Int) = 1 - lv
      · rw [if_pos c3.symm, if_pos c3]; rfl
      · rw [if_neg (fun h => c3 h.symm), if_neg c3, if_pos (by omega), if_pos (by omega)]
        have := ent_j2 mode va acc bytes l lv (atI t va lv) hlv (l.getD (1 - lv).toNat z52) (getD_word hl _) next k hk (atI t va lv) em hnext
        rw [eu] at this
        exact this
  · rw [if_neg (by omega), hf, if_neg (fun h => c1 h.1)]
theorem U_page (v : BitVec 32) : 0 ≤ U v / 1024 ∧ U v / 1024 < 4194304 := by have := U_lt v; have := U_nonneg v; omega
theorem lv0_eq (mode : Int) (va : BitVec 32) (acc bytes : Int) (hb : bytes ≤ 9223372036854775807) (l : List S52) (hl : Words l) (hlen : 1 ≤ l.length) (t : Int) (h0 : 0 ≤ t) (h1 : t < 4194304) (k : Nat) (hk : 4 ≤ k) :
    walk_next.l0 k mode (U va) acc bytes l t 0 = some (flat (lv0R mode va acc bytes l t)) := by
  obtain ⟨k, rfl⟩ : ∃ m, k = m + 1 + 3 := ⟨k - 4, by omega⟩
  have ew : wrap64 (0 - 1) = -1 := by unfold wrap64; omega
  rw [lv_step mode va acc bytes hb l hl t h0 h1 0 (.inl rfl) (by omega) (fun _ => (faultR acc true, 2)) (k + 1) (by omega) (fun v => by rw [ew]; exact lv_end _ _ _ _ _ _ _)]
  unfold lv0R
  have e1 : ((l.length : Int) = 1 - 0) = (l.length = 1) := propext (by omega)
  simp only [e1]
  rfl
theorem lv1_eq (mode : Int) (va : BitVec 32) (acc bytes : Int) (hb : bytes ≤ 9223372036854775807) (l : List S52) (hl : Words l) (t : Int) (h0 : 0 ≤ t) (h1 : t < 4194304) (k : Nat) (hk : 7 ≤ k) :
    walk_next.l0 k mode (U va) acc bytes l t 1 = some (flat (lv1R mode va acc bytes l t)) := by
  obtain ⟨k, rfl⟩ : ∃ m, k = m + 3 := ⟨k - 3, by omega⟩
  have ew : wrap64 (1 - 1) = 0 := by unfold wrap64; omega
  by_cases hn : l.length = 0
  · have e0 : l = [] := List.length_eq_zero_iff.1 hn
    subst e0
    obtain ⟨b0, b1⟩ := at_bd t h0 h1 va 1 (.inr rfl)
    obtain ⟨e1, e2⟩ := at_eq t h0 h1 va 1 (.inr rfl)
    have eu : wrap64 (1 - 1) = 0 := by unfold wrap64; omega
    unfold lv1R
    rw [walk_next.l0.eq_2, if_pos (by decide), e1, Option.bind_some, e2, mxw bytes hb, wr64 _ b0 (by omega), eu]
    have hf : ∀ x18, walk_next.j1 (k + 2) mode (U va) acc bytes [] 1 0 x18 true = some (flat (faultR acc false, 0)) := by
      intro x18; rw [walk_next.j1.eq_2]; rw [if_pos rfl, fault6]
    by_cases c1 : atI t va 1 < 4294967296
    · rw [if_pos (by omega)]
      by_cases c2 : atI t va 1 + 4 > mx bytes 0
      · rw [decide_eq_true c2, hf, if_neg (fun h => by have := h.2; omega)]
      · rw [decide_eq_false c2, if_pos (show inMem _ _ from ⟨c1, by omega⟩), walk_next.j1.eq_2]
        rw [if_neg (by decide), if_pos (by simp), if_pos (by simp), show atI t va 1 % 4294967296 = atI t va 1 by omega]; rfl
    · rw [if_neg (by omega), hf, if_neg (fun h => c1 h.1)]
  · rw [lv_step mode va acc bytes hb l hl t h0 h1 1 (.inr rfl) (by omega) (fun v => lv0R mode va acc bytes l (U v / 1024)) k (by omega) (fun v => by
      rw [ew]; exact lv0_eq mode va acc bytes hb l hl (by omega) _ (U_page v).1 (U_page v).2 k (by omega))]
    unfold lv1R
    have e1 : ((l.length : Int) = 1 - 1) = (l.length = 0) := propext (by omega)
    simp only [e1]
    rfl
def entries (satp : BitVec 32) (mode : Int) : Int := if mode = 3 then 0 else if U satp / 2147483648 = 0 then 0 else 2
theorem entries_eq (satp : BitVec 32) (mode : Int) : walk_Entries.f (U satp) mode = some (entries satp mode) := by
  have hu := U_lt satp
  have h0 := U_nonneg satp
  unfold walk_Entries.f entries
  by_cases c : mode = 3
  · rw [if_pos c, if_pos c]
  · rw [if_neg c, if_neg c, bits_eq, show bitsB satp 31 1 = bitsB satp ((31 : Nat) : Int) ((1 : Nat) : Int) from rfl, U_bits, Option.bind_some]
    have e : U satp / 2 ^ 31 % 2 ^ 1 = U satp / 2147483648 := by omega
    rw [e]
    split <;> rfl
def nextR (satp : BitVec 32) (mode : Int) (va : BitVec 32) (acc bytes : Int) (l : List S52) : Stp × Int :=
  if entries satp mode = 0 then ((1, U va, 0, 0, 0), 0) else lv1R mode va acc bytes l (U satp % 4194304)
theorem next_eq (satp : BitVec 32) (mode : Int) (va : BitVec 32) (acc bytes : Int) (hb : bytes ≤ 9223372036854775807) (l : List S52) (hl : Words l) (k : Nat) (hk : 7 ≤ k) :
    walk_next.f k (U satp) mode (U va) acc bytes l = some (flat (nextR satp mode va acc bytes l)) := by
  have h0 := U_nonneg satp
  unfold walk_next.f nextR
  rw [entries_eq, Option.bind_some]
  by_cases c : entries satp mode = 0
  · rw [if_pos c, if_pos c]; rfl
  · rw [if_neg c, if_neg c, bits_eq, show bitsB satp 0 22 = bitsB satp ((0 : Nat) : Int) ((22 : Nat) : Int) from rfl, U_bits, Option.bind_some]
    have e : U satp / 2 ^ 0 % 2 ^ 22 = U satp % 4194304 := by omega
    rw [e]
    exact lv1_eq mode va acc bytes hb l hl _ (by omega) (by omega) k hk
/-- What comes next, by any entries. -/
def NextR (satp : BitVec 32) (mode : Int) (va : BitVec 32) (acc bytes : Int) (l : List S52) : Stp :=
  if (nextR satp mode va acc bytes l).2 < (l.length : Int) then faultR acc true else (nextR satp mode va acc bytes l).1
theorem Next_eq (satp : BitVec 32) (mode : Int) (va : BitVec 32) (acc bytes : Int) (hb : bytes ≤ 9223372036854775807) (l : List S52) (hl : Words l) (k : Nat) (hk : 7 ≤ k) :
    walk_Next.f k (U satp) mode (U va) acc bytes l = some (NextR satp mode va acc bytes l) := by
  unfold walk_Next.f NextR
  rw [next_eq satp mode va acc bytes hb l hl k hk, Option.bind_some]
  unfold flat
  by_cases c : (nextR satp mode va acc bytes l).2 < (l.length : Int)
  · rw [if_pos c, if_pos c, fault_eq]; rfl
  · rw [if_neg c, if_neg c]

theorem first_true : corrallaw9_first.f 200 = some true := by decide +kernel
theorem words_loop (l : List Int) (hl : l.length ≤ 64) (d : Nat) : ∀ (k i : Nat) (out : List Int), i + d = l.length → d + 1 ≤ k → out = l.take i → corralref_Words.l0 k l out (i : Int) = some l := by
  induction d with
  | zero =>
    intro k i out hi hk ho
    obtain ⟨k, rfl⟩ : ∃ m, k = m + 1 := ⟨k - 1, by omega⟩
    simp only [corralref_Words.l0]
    rw [if_neg (by omega), ho, List.take_of_length_le (by omega)]
  | succ d ih =>
    intro k i out hi hk ho
    obtain ⟨k, rfl⟩ : ∃ m, k = m + 1 := ⟨k - 1, by omega⟩
    have hlt : i < l.length := by omega
    have hr : rd l (i : Int) = l[i] := by unfold rd; simp [hlt]
    simp only [corralref_Words.l0]
    rw [if_pos (by omega), if_pos (by omega), if_pos (by rw [ho, List.length_take]; omega), wrap_succ i (by omega), hr]
    refine ih k (i + 1) _ (by omega) (by omega) ?_
    rw [ho, List.take_succ_eq_append_getElem hlt]
theorem words_eq (l : List Int) (hl : l.length ≤ 64) (k : Nat) (hk : 66 ≤ k) : corralref_Words.f k l = some l := by
  unfold corralref_Words.f
  rw [if_pos (by omega), if_pos (by omega)]
  exact words_loop l hl l.length k 0 [] (by omega) (by omega) rfl
section
variable (satp va : BitVec 32) (mode acc : Int) (m : List (BitVec 32)) (hm : m.length ≤ 64)
/-- The loop, over these words. -/
def go (k : Nat) (l : List S52) (c i : Int) : Option Bool := corrallaw9_WalkEnds.l0 k (U satp) mode (U va) acc (m.map U) l c i
/-- What comes next. -/
def nx (l : List S52) : Stp := NextR satp mode va acc (4 * (m.length : Int)) l
theorem next_now (hm : m.length ≤ 64) (l : List S52) (hl : Words l) (k : Nat) (hk : 7 ≤ k) : walk_Next.f k (U satp) mode (U va) acc (wrap64 (4 * ((m.map U).length : Int))) l = some (nx satp va mode acc m l) := by
  have e : wrap64 (4 * ((m.map U).length : Int)) = 4 * (m.length : Int) := by rw [List.length_map]; unfold wrap64; omega
  rw [e]
  exact Next_eq satp mode va acc _ (by omega) l hl k hk
theorem at_fault (hm : m.length ≤ 64) (l : List S52) (hl : Words l) (p : Bool) (h : nx satp va mode acc m l = faultR acc p) (k : Nat) (hk : 7 ≤ k) (c i : Int) (hi : i < 6) : go satp va mode acc m (k + 1) l c i = some true := by
  unfold go
  rw [corrallaw9_WalkEnds.l0.eq_2, if_pos hi, next_now satp va mode acc m hm l hl k hk, Option.bind_some, h]
  simp only [faultR]
  rw [if_neg (by decide), if_neg (by decide), if_neg (by decide), if_pos trivial]
  simp only [cause_eq, Option.bind_some]
  cases p with
  | true => rw [if_pos rfl]; rfl
  | false =>
    by_cases c : causeI acc false = causeI acc true
    · rw [if_pos c]; rfl
    · rw [if_neg c]; exact (if_pos rfl).trans rfl
theorem at_start (hm : m.length ≤ 64) (h : nx satp va mode acc m [] = (1, U va, 0, 0, 0)) (k : Nat) (hk : 7 ≤ k) (c i : Int) (hi : i < 6) : go satp va mode acc m (k + 1) [] c i = some true := by
  unfold go
  rw [corrallaw9_WalkEnds.l0.eq_2, if_pos hi, next_now satp va mode acc m hm [] (fun e he => by cases he) k hk, Option.bind_some, h]
  simp
theorem at_here (hm : m.length ≤ 64) (l : List S52) (hl : Words l) (hn : 0 < l.length) (hn4 : l.length ≤ 4) (pa : Int) (h : nx satp va mode acc m l = (1, pa, 0, 0, 0)) (hp0 : 0 ≤ pa) (hpa : pa % 4096 = U va % 4096)
    (w : BitVec 32) (hw : (rd_T52 l ((l.length : Int) - 1)).f1 = U w) (hmay : mayW w acc mode = true) (k : Nat) (hk : 7 ≤ k) (c i : Int) (hi : i < 6) : go satp va mode acc m (k + 1) l c i = some true := by
  have hv := U_nonneg va
  have e1 : Int.tmod pa 4096 = pa % 4096 := Int.tmod_eq_emod_of_nonneg hp0
  have e2 : Int.tmod (U va) 4096 = U va % 4096 := Int.tmod_eq_emod_of_nonneg hv
  have ew : wrap64 ((l.length : Int) - 1) = (l.length : Int) - 1 := by unfold wrap64; omega
  unfold go
  rw [corrallaw9_WalkEnds.l0.eq_2, if_pos hi, next_now satp va mode acc m hm l hl k hk, Option.bind_some, h]
  simp only [e1, e2, ew]
  rw [if_neg (by decide), if_neg (by decide), if_pos trivial, if_pos hpa, if_neg (by omega), if_pos (by omega), if_pos (by omega), if_pos (by omega), hw, may_eq, Option.bind_some, hmay]
theorem at_more (hm : m.length ≤ 64) (l : List S52) (hl : Words l) (a : Int) (h : nx satp va mode acc m l = (3, 0, a, 0, 0)) (h0 : 0 ≤ a) (h4 : a % 4 = 0) (hin : a + 4 ≤ 4 * (m.length : Int)) (he : (l.length : Int) < entries satp mode) (he2 : entries satp mode ≤ 2)
    (k : Nat) (hk : 7 ≤ k) (c i : Int) (hi : i < 6) (hi0 : 0 ≤ i) : ∃ w : BitVec 32, go satp va mode acc m (k + 1) l c i = go satp va mode acc m k (l ++ [⟨a, U w, 0, 0, false⟩]) c (i + 1) := by
  have ei : wrap64 (i + 1) = i + 1 := by unfold wrap64; omega
  have e1 : Int.tmod a 4 = a % 4 := Int.tmod_eq_emod_of_nonneg h0
  have e2 : Int.tdiv a 4 = a / 4 := Int.tdiv_eq_ediv_of_nonneg h0
  have e3 : a / 4 % 4294967296 = a / 4 := by omega
  have hlt : (a / 4).toNat < m.length := by omega
  have hr : rd (m.map U) (a / 4) = U m[(a / 4).toNat] := by unfold rd; simp [hlt]
  refine ⟨m[(a / 4).toNat], ?_⟩
  unfold go
  rw [corrallaw9_WalkEnds.l0.eq_2, if_pos hi, next_now satp va mode acc m hm l hl k hk, Option.bind_some, h]
  simp only [e1, e2, e3, hr, ei, entries_eq, Option.bind_some, List.length_map]
  rw [if_pos trivial, if_pos h4, if_neg (by omega), if_neg (by omega), if_pos (by omega), if_pos (by omega), if_pos (by omega)]
theorem at_mark (hm : m.length ≤ 64) (l : List S52) (hl : Words l) (hn : 0 < l.length) (hn4 : l.length ≤ 4) (a : Int) (w : BitVec 32) (h : nx satp va mode acc m l = (4, 0, a, U (needB w acc), 0))
    (hlast : rd_T52 l ((l.length : Int) - 1) = ⟨a, U w, 0, 0, false⟩) (hne : needB w acc ≠ w)
    (k : Nat) (hk : 7 ≤ k) (i : Int) (hi : i < 6) (hi0 : 0 ≤ i) : go satp va mode acc m (k + 1) l 0 i = go satp va mode acc m k (l.set (l.length - 1) ⟨a, U (needB w acc), 0, 0, false⟩) 1 (i + 1) := by
  have ei : wrap64 (i + 1) = i + 1 := by unfold wrap64; omega
  have ec : wrap64 (0 + 1) = 1 := by unfold wrap64; omega
  have ew : wrap64 ((l.length : Int) - 1) = (l.length : Int) - 1 := by unfold wrap64; omega
  have en : ((l.length : Int) - 1).toNat = l.length - 1 := by omega
  unfold go
  rw [corrallaw9_WalkEnds.l0.eq_2, if_pos hi, next_now satp va mode acc m hm l hl k hk, Option.bind_some, h]
  simp only [ew, ec, ei, en, hlast, needs_eq, Option.bind_some]
  rw [if_neg (by decide), if_pos trivial, if_neg (by decide), if_neg (by omega), if_pos (by omega), if_pos (by omega), if_pos trivial, if_pos trivial, if_neg (fun e => hne ((U_inj _ _).1 e))]
/-- A leaf's marks change nothing else. -/
theorem need_same (e : BitVec 32) (a mode : Int) (hl : leafW e = true) : badW (needB e a) = badW e ∧ leafW (needB e a) = leafW e ∧ mayW (needB e a) a mode = mayW e a mode ∧ U (needB e a) / 1024 = U e / 1024 := by
  have b : ∀ i, i ≠ 6 → i ≠ 7 → (needB e a).getLsbD i = e.getLsbD i := by
    intro i h6 h7; rw [needB_bit, decide_eq_false h6, decide_eq_false h7]; simp
  refine ⟨?_, ?_, ?_, ?_⟩
  · unfold leafW at hl
    unfold badW badB
    rw [b 0 (by decide) (by decide), b 1 (by decide) (by decide), b 2 (by decide) (by decide), b 3 (by decide) (by decide), hl]; simp
  · unfold leafW; rw [b 1 (by decide) (by decide), b 3 (by decide) (by decide)]
  · unfold leafW at hl
    unfold mayW mayB badB
    rw [b 0 (by decide) (by decide), b 1 (by decide) (by decide), b 2 (by decide) (by decide), b 3 (by decide) (by decide), b 4 (by decide) (by decide), hl]; simp
  · have h1 : U (needB e a) / (1024 : Int) = U (needB e a >>> 10) := by rw [← div_U _ 10]; rfl
    have h2 : U e / (1024 : Int) = U (e >>> 10) := by rw [← div_U _ 10]; rfl
    rw [h1, h2]
    congr 1
    apply BitVec.eq_of_getLsbD_eq; intro i _
    rw [BitVec.getLsbD_ushiftRight, BitVec.getLsbD_ushiftRight, b _ (by omega) (by omega)]
/-- What a leaf comes to: a fault, a place, or a mark, behind which there is a fault or a place. -/
def Ends (e : BitVec 32) (r : Stp) : Prop := (∃ p, r = faultR acc p) ∨ (∃ pa, r = (1, pa, 0, 0, 0) ∧ 0 ≤ pa ∧ pa % 4096 = U va % 4096 ∧ mayW e acc mode = true)
theorem leaf_ends (e : BitVec 32) (a lv : Int) (hlv : lv = 0 ∨ lv = 1) (hn : needB e acc = e) : Ends va mode acc e (leafR e a mode va acc lv) := by
  have hv := U_nonneg va
  have hu := U_nonneg e
  unfold leafR
  by_cases c : mayW e acc mode = true ∧ ¬ (lv > 0 ∧ U e / 1024 % 1024 ≠ 0)
  · rw [if_pos c, if_pos hn]
    split
    · refine .inr ⟨_, rfl, ?_, ?_, c.1⟩
      · rcases hlv with rfl | rfl
        · have e12 : (2 : Int) ^ (12 + 10 * (0 : Int)).toNat = 4096 := by decide
          rw [e12]; omega
        · have e22 : (2 : Int) ^ (12 + 10 * (1 : Int)).toNat = 4194304 := by decide
          rw [e22]; omega
      · rcases hlv with rfl | rfl
        · have e12 : (2 : Int) ^ (12 + 10 * (0 : Int)).toNat = 4096 := by decide
          rw [e12]; omega
        · have e22 : (2 : Int) ^ (12 + 10 * (1 : Int)).toNat = 4194304 := by decide
          rw [e22]; omega
    · exact .inl ⟨false, rfl⟩
  · rw [if_neg c]; exact .inl ⟨true, rfl⟩
theorem leaf_marks (e : BitVec 32) (a lv : Int) (hn : needB e acc ≠ e) : (∃ p, leafR e a mode va acc lv = faultR acc p) ∨ leafR e a mode va acc lv = (4, 0, a, U (needB e acc), 0) := by
  unfold leafR
  split
  · first | exact .inr rfl | (rw [if_neg hn]; exact .inr rfl)
  · exact .inl ⟨true, rfl⟩
/-- The walk's end, of a row whose last entry is a leaf. -/
theorem at_leaf (hm : m.length ≤ 64) (mk : BitVec 32 → List S52) (n : Nat) (hn : 0 < n) (hn4 : n ≤ 4) (hlen : ∀ e, (mk e).length = n) (hw : ∀ e, Words (mk e)) (a lv : Int) (hlv : lv = 0 ∨ lv = 1)
    (hlast : ∀ e, rd_T52 (mk e) ((n : Int) - 1) = ⟨a, U e, 0, 0, false⟩) (hset : ∀ e v, (mk e).set (n - 1) ⟨a, U v, 0, 0, false⟩ = mk v)
    (hnx : ∀ e, badW e = false → leafW e = true → nx satp va mode acc m (mk e) = leafR e a mode va acc lv)
    (e : BitVec 32) (hb : badW e = false) (hl : leafW e = true) (k : Nat) (hk : 8 ≤ k) (i : Int) (hi : i < 5) (hi0 : 0 ≤ i) : go satp va mode acc m (k + 1) (mk e) 0 i = some true := by
  have fin : ∀ e' (_ : badW e' = false) (_ : leafW e' = true) (_ : needB e' acc = e') (k' : Nat) (_ : 7 ≤ k') (c i' : Int) (_ : i' < 6), go satp va mode acc m (k' + 1) (mk e') c i' = some true := by
    intro e' hb' hl' hn' k' hk' c i' hi'
    rcases leaf_ends va mode acc e' a lv hlv hn' with ⟨p, hp⟩ | ⟨pa, hp, h0, hpa, hmay⟩
    · exact at_fault satp va mode acc m hm _ (hw e') p (by rw [hnx e' hb' hl', hp]) k' hk' c i' hi'
    · exact at_here satp va mode acc m hm _ (hw e') (by rw [hlen]; exact hn) (by rw [hlen]; exact hn4) pa (by rw [hnx e' hb' hl', hp]) h0 hpa e' (by rw [hlen, hlast]) hmay k' hk' c i' hi'
  by_cases hneed : needB e acc = e
  · exact fin e hb hl hneed k (by omega) 0 i (by omega)
  · rcases leaf_marks va mode acc e a lv hneed with ⟨p, hp⟩ | hp
    · exact at_fault satp va mode acc m hm _ (hw e) p (by rw [hnx e hb hl, hp]) k (by omega) 0 i (by omega)
    · obtain ⟨k, rfl⟩ : ∃ j, k = j + 1 := ⟨k - 1, by omega⟩
      obtain ⟨s1, s2, _, _⟩ := need_same e acc mode hl
      rw [at_mark satp va mode acc m hm _ (hw e) (by rw [hlen]; exact hn) (by rw [hlen]; exact hn4) a e (by rw [hnx e hb hl, hp]) (by rw [hlen, hlast]) hneed (k + 1) (by omega) i (by omega) hi0, hlen, hset]
      exact fin _ (by rw [s1, hb]) (by rw [s2, hl]) (needB_again e acc) k (by omega) 1 (i + 1) (by omega)
def row1 (a : Int) (e : BitVec 32) : List S52 := [⟨a, U e, 0, 0, false⟩]
def row2 (a : Int) (e : BitVec 32) (a' : Int) (e' : BitVec 32) : List S52 := [⟨a, U e, 0, 0, false⟩, ⟨a', U e', 0, 0, false⟩]
theorem words_row1 (a : Int) (e : BitVec 32) : Words (row1 a e) := by
  intro x hx; rw [List.mem_singleton.1 hx]; exact ⟨e, rfl⟩
theorem words_row2 (a : Int) (e : BitVec 32) (a' : Int) (e' : BitVec 32) : Words (row2 a e a' e') := by
  intro x hx
  rcases List.mem_cons.1 hx with rfl | hx
  · exact ⟨e, rfl⟩
  · rw [List.mem_singleton.1 hx]; exact ⟨e', rfl⟩
theorem nx0 (h2 : entries satp mode ≠ 0) : nx satp va mode acc m [] = if inMem (atI (U satp % 4194304) va 1) (4 * (m.length : Int)) then (3, 0, atI (U satp % 4194304) va 1, 0, 0) else faultR acc false := by
  unfold nx NextR nextR lv1R
  rw [if_neg h2]
  by_cases c : inMem (atI (U satp % 4194304) va 1) (4 * (m.length : Int))
  · simp [c]
  · simp [c]
theorem nx1 (h2 : entries satp mode ≠ 0) (a : Int) (ha : a = atI (U satp % 4194304) va 1) (hin : inMem a (4 * (m.length : Int))) (e : BitVec 32) : nx satp va mode acc m (row1 a e) =
    if badW e = true then faultR acc true else if leafW e = true then leafR e a mode va acc 1 else
      (if inMem (atI (U e / 1024) va 0) (4 * (m.length : Int)) then (3, 0, atI (U e / 1024) va 0, 0, 0) else faultR acc false) := by
  have h : nextR satp mode va acc (4 * (m.length : Int)) (row1 a e) = (if badW e = true then faultR acc true else if leafW e = true then leafR e a mode va acc 1 else (if inMem (atI (U e / 1024) va 0) (4 * (m.length : Int)) then (3, 0, atI (U e / 1024) va 0, 0, 0) else faultR acc false), 1) := by
    unfold nextR lv1R entR lv0R row1
    rw [if_neg h2, ← ha, if_pos hin, if_neg (by simp)]
    simp only [List.getD_cons_zero, ofInt_U]
    cases hb : badW e with
    | true => rw [if_neg (by simp)]; rfl
    | false =>
      rw [if_pos ⟨trivial, rfl⟩]
      cases hl : leafW e with
      | true => rfl
      | false =>
        by_cases c : inMem (atI (U e / 1024) va 0) (4 * (m.length : Int))
        · simp [c]
        · simp [c]
  unfold nx NextR
  rw [h, if_neg (by simp [row1])]
theorem nx2 (h2 : entries satp mode ≠ 0) (a : Int) (ha : a = atI (U satp % 4194304) va 1) (hin : inMem a (4 * (m.length : Int))) (e : BitVec 32) (hb : badW e = false) (hl : leafW e = false)
    (a' : Int) (ha' : a' = atI (U e / 1024) va 0) (hin' : inMem a' (4 * (m.length : Int))) (e' : BitVec 32) : nx satp va mode acc m (row2 a e a' e') =
    if badW e' = true then faultR acc true else if leafW e' = true then leafR e' a' mode va acc 0 else faultR acc true := by
  have h : nextR satp mode va acc (4 * (m.length : Int)) (row2 a e a' e') = (if badW e' = true then faultR acc true else if leafW e' = true then leafR e' a' mode va acc 0 else faultR acc true, 2) := by
    unfold nextR lv1R entR lv0R entR row2
    rw [if_neg h2, ← ha, if_pos hin, if_neg (by simp)]
    simp only [List.getD_cons_zero, List.getD_cons_succ, ofInt_U, hb, hl, ← ha']
    rw [if_pos (by simp), if_neg (by decide), if_pos hin', if_neg (by simp)]
    cases hb' : badW e' with
    | true => rw [if_neg (by simp)]; rfl
    | false =>
      rw [if_pos (by simp)]
      cases hl' : leafW e' with
      | true => rfl
      | false => rfl
  unfold nx NextR
  rw [h, if_neg (by simp [row2])]
theorem mem_more {a bytes : Int} (h : inMem a bytes) (hb : 0 ≤ bytes) : a + 4 ≤ bytes := by
  have := h.2
  unfold mx at this
  split at this <;> omega
theorem at_four (t : Int) (lv : Int) : atI t va lv % 4 = 0 := by unfold atI; omega
theorem walk_ends (hm : m.length ≤ 64) (k : Nat) (hk : 14 ≤ k) : go satp va mode acc m k [] 0 0 = some true := by
  have hs := U_nonneg satp
  by_cases h2 : entries satp mode = 0
  · obtain ⟨k, rfl⟩ : ∃ j, k = j + 1 := ⟨k - 1, by omega⟩
    refine at_start satp va mode acc m hm ?_ k (by omega) 0 0 (by decide)
    unfold nx NextR nextR
    rw [if_pos h2]; rfl
  have he : entries satp mode = 2 := by
    unfold entries at h2 ⊢
    split at h2
    · exact absurd rfl h2
    · rename_i c
      rw [if_neg c]
      split at h2
      · exact absurd rfl h2
      · rename_i c'
        rw [if_neg c']
  obtain ⟨a, ha⟩ : ∃ a, a = atI (U satp % 4194304) va 1 := ⟨_, rfl⟩
  obtain ⟨k, rfl⟩ : ∃ j, k = j + 1 := ⟨k - 1, by omega⟩
  have w0 : Words ([] : List S52) := fun e he => by cases he
  have hx0 := nx0 satp va mode acc m h2
  rw [← ha] at hx0
  by_cases hin : inMem a (4 * (m.length : Int))
  rotate_left
  · rw [if_neg hin] at hx0
    exact at_fault satp va mode acc m hm [] w0 false hx0 k (by omega) 0 0 (by decide)
  rw [if_pos hin] at hx0
  have b1 := at_bd (U satp % 4194304) (by omega) (by omega) va 1 (.inr rfl)
  rw [← ha] at b1
  obtain ⟨e, h1⟩ := at_more satp va mode acc m hm [] w0 a hx0 b1.1 (by rw [ha]; exact at_four va _ _) (mem_more hin (by omega)) (by rw [he]; decide) (by omega) k (by omega) 0 0 (by decide) (by decide)
  rw [h1]
  show go satp va mode acc m k (row1 a e) 0 1 = some true
  have hx1 := nx1 satp va mode acc m h2 a ha hin
  obtain ⟨k, rfl⟩ : ∃ j, k = j + 1 := ⟨k - 1, by omega⟩
  cases hb : badW e with
  | true => exact at_fault satp va mode acc m hm _ (words_row1 a e) true (by rw [hx1, if_pos hb]) k (by omega) 0 1 (by decide)
  | false =>
    cases hl : leafW e with
    | true =>
      exact at_leaf satp va mode acc m hm (row1 a) 1 (by decide) (by decide) (fun _ => rfl) (words_row1 a) a 1 (.inr rfl) (fun _ => rfl) (fun _ _ => rfl)
        (fun e' hb' hl' => by rw [hx1, if_neg (by rw [hb']; decide), if_pos hl']) e hb hl k (by omega) 1 (by decide) (by decide)
    | false =>
      have hx1e := hx1 e
      rw [if_neg (by rw [hb]; decide), if_neg (by rw [hl]; decide)] at hx1e
      obtain ⟨a', ha'⟩ : ∃ a', a' = atI (U e / 1024) va 0 := ⟨_, rfl⟩
      rw [← ha'] at hx1e
      by_cases hin' : inMem a' (4 * (m.length : Int))
      rotate_left
      · rw [if_neg hin'] at hx1e
        exact at_fault satp va mode acc m hm _ (words_row1 a e) false hx1e k (by omega) 0 1 (by decide)
      rw [if_pos hin'] at hx1e
      have b2 := at_bd (U e / 1024) (U_page e).1 (U_page e).2 va 0 (.inl rfl)
      rw [← ha'] at b2
      obtain ⟨e', h3⟩ := at_more satp va mode acc m hm _ (words_row1 a e) a' hx1e b2.1 (by rw [ha']; exact at_four va _ _) (mem_more hin' (by omega)) (by rw [he]; show (1 : Int) < 2; decide) (by omega) k (by omega) 0 1 (by decide) (by decide)
      rw [h3]
      show go satp va mode acc m k (row2 a e a' e') 0 2 = some true
      have hx2 := nx2 satp va mode acc m h2 a ha hin e hb hl a' ha' hin'
      obtain ⟨k, rfl⟩ : ∃ j, k = j + 1 := ⟨k - 1, by omega⟩
      cases hb' : badW e' with
      | true => exact at_fault satp va mode acc m hm _ (words_row2 a e a' e') true (by rw [hx2, if_pos hb']) k (by omega) 0 2 (by decide)
      | false =>
        cases hl' : leafW e' with
        | true =>
          exact at_leaf satp va mode acc m hm (row2 a e a') 2 (by decide) (by decide) (fun _ => rfl) (words_row2 a e a') a' 0 (.inl rfl) (fun _ => rfl) (fun _ _ => rfl)
            (fun f hf hf' => by rw [hx2, if_neg (by rw [hf]; decide), if_pos hf']) e' hb' hl' k (by omega) 2 (by decide) (by decide)
        | false => exact at_fault satp va mode acc m hm _ (words_row2 a e a' e') true (by rw [hx2, if_neg (by rw [hb']; decide), if_neg (by rw [hl']; decide)]) k (by omega) 0 2 (by decide)
end
theorem wordsI (l : List Int) (h : ∀ x ∈ l, (Lit.int .u32 x).wf = true) : ∃ vs : List (BitVec 32), l = vs.map U := by
  induction l with
  | nil => exact ⟨[], rfl⟩
  | cons x l ih =>
    obtain ⟨vs, rfl⟩ := ih fun y hy => h y (List.mem_cons_of_mem _ hy)
    obtain ⟨v, rfl⟩ := wf_u32 (h x (List.mem_cons_self ..))
    exact ⟨v :: vs, rfl⟩
theorem main (satp va : BitVec 32) (mode acc : Int) (m : List (BitVec 32)) (k : Nat) (hk : 70 ≤ k) (h : corrallaw9_first.f k = some true) : corrallaw9_WalkEnds.f k (m.map U) (U satp) mode (U va) acc = some true := by
  obtain ⟨k, rfl⟩ : ∃ j, k = j + 1 := ⟨k - 1, by omega⟩
  unfold corrallaw9_WalkEnds.f
  rw [h, Option.bind_some, if_pos rfl]
  by_cases c : ((m.map U).length : Int) > 64
  · rw [if_pos c]; simp only [corrallaw9_WalkEnds.j0, if_true]
  · rw [if_neg c]
    have hl : (m.map U).length ≤ 64 := by omega
    have hl2 : m.length ≤ 64 := by rw [List.length_map] at hl; exact hl
    simp only [corrallaw9_WalkEnds.j0, Bool.not_true]
    rw [if_neg (by decide), words_eq _ hl k (by omega), Option.bind_some]
    exact walk_ends satp va mode acc m hl2 k (by omega)
end WalkEndsP
theorem WalkEnds : corrallaw9_WalkEnds.Pure := by
  intro l0 a1 a2 a3 a4 _ _ hl h1 _ h3 _
  obtain ⟨satp, rfl⟩ := wf_u32 h1
  obtain ⟨va, rfl⟩ := wf_u32 h3
  obtain ⟨m, rfl⟩ := WalkEndsP.wordsI l0 hl
  exact ⟨200, WalkEndsP.main satp va a2 a4 m 200 (by decide) WalkEndsP.first_true⟩

end Go.Proofs.Ytecmjcfhbedelaa.Pure
