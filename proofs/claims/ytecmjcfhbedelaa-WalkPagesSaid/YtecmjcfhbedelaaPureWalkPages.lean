/- A page laid by hand is found, at its place, for what it may be used, in its mode, of either size: for every address, page, flags and access. -/
import Derived.Test.YtecmjcfhbedelaaQWalkPagesx4
import Derived.Test.YtecmjcfhbedelaaBv
set_option linter.unusedSimpArgs false
set_option linter.unusedVariables false
namespace Go.Proofs.Ytecmjcfhbedelaa.Pure
open Go.RowKit Go.Proofs.Ytecmjcfhbedelaa.QWalkPages Go.Proofs.YtecmjcfhbedelaaW.PrintWords Go.Proofs.YtecmjcfhbedelaaW.PrintLast Go.Proofs.YtecmjcfhbedelaaW.PrintMore Go.Proofs.Ytecmjcfhbedelaa.Bv
namespace WalkPagesP
theorem bit_eq (w : BitVec 32) (i : Nat) (hi : i < 32) (m : Int) (hm : BitVec.ofInt 32 m = BitVec.twoPow 32 i) : (Go.bits .and .u32 (U w) m = 0) = (w.getLsbD i = false) := by
  rw [and_U, ofInt_U, hm, and_bit w i hi]
theorem bit1 (w : BitVec 32) : (Go.bits .and .u32 (U w) 1 = 0) = (w.getLsbD 0 = false) := bit_eq w 0 (by decide) 1 (by decide)
theorem bit2 (w : BitVec 32) : (Go.bits .and .u32 (U w) 2 = 0) = (w.getLsbD 1 = false) := bit_eq w 1 (by decide) 2 (by decide)
theorem bit4 (w : BitVec 32) : (Go.bits .and .u32 (U w) 4 = 0) = (w.getLsbD 2 = false) := bit_eq w 2 (by decide) 4 (by decide)
theorem bit8 (w : BitVec 32) : (Go.bits .and .u32 (U w) 8 = 0) = (w.getLsbD 3 = false) := bit_eq w 3 (by decide) 8 (by decide)
theorem bit16 (w : BitVec 32) : (Go.bits .and .u32 (U w) 16 = 0) = (w.getLsbD 4 = false) := bit_eq w 4 (by decide) 16 (by decide)
theorem bit0 (w : BitVec 32) : (Go.bits .and .u32 (U w) 0 = 0) = True := by
  rw [and_U, ofInt_U]; simp; rfl
theorem bit16b (w : BitVec 32) : (Go.bits .and .u32 (U w) 16 != 0) = w.getLsbD 4 := by
  have := bit16 w
  cases h : w.getLsbD 4 <;> simp_all [bne]
theorem bit208 (w : BitVec 32) : (Go.bits .and .u32 (U w) 208 = 0) = (w.getLsbD 4 = false ∧ w.getLsbD 6 = false ∧ w.getLsbD 7 = false) := by
  rw [and_U, ofInt_U, ← and_bit w 4 (by decide), ← and_bit w 6 (by decide), ← and_bit w 7 (by decide), ← or_zero, ← or_zero, ← BitVec.and_or_distrib_left, ← BitVec.and_or_distrib_left]
  rfl
theorem bit10 (w : BitVec 32) : (Go.bits .and .u32 (U w) 10 = 0) = (w.getLsbD 1 = false ∧ w.getLsbD 3 = false) := by
  rw [and_U, ofInt_U, ← and_bit w 1 (by decide), ← and_bit w 3 (by decide), ← or_zero, ← BitVec.and_or_distrib_left]
  rfl
theorem leaf_eq (w : BitVec 32) : pte_Leaf.f (U w) = some (w.getLsbD 1 || w.getLsbD 3) := by
  unfold pte_Leaf.f
  have := bit10 w
  cases h : w.getLsbD 1 <;> cases h3 : w.getLsbD 3 <;> simp_all [bne]
theorem bit208b (w : BitVec 32) : (Go.bits .and .u32 (U w) 208 != 0) = (w.getLsbD 4 || w.getLsbD 6 || w.getLsbD 7) := by
  have := bit208 w
  cases h : w.getLsbD 4 <;> cases h6 : w.getLsbD 6 <;> cases h7 : w.getLsbD 7 <;> simp_all [bne]
def badB (v r wr x u a d : Bool) : Bool := !v || (wr && !r) || (!(r || x) && (u || a || d))
def badW (w : BitVec 32) : Bool := badB (w.getLsbD 0) (w.getLsbD 1) (w.getLsbD 2) (w.getLsbD 3) (w.getLsbD 4) (w.getLsbD 6) (w.getLsbD 7)
theorem bad_eq (w : BitVec 32) : pte_Bad.f (U w) = some (badW w) := by
  unfold pte_Bad.f badW badB
  simp only [leaf_eq, bit1, bit4, bit2, bit208b, Option.bind_some]
  cases w.getLsbD 0 <;> cases w.getLsbD 1 <;> cases w.getLsbD 2 <;> cases w.getLsbD 3 <;> simp
/-- The bit that an access asks for. -/
def askB (r wr x : Bool) (a : Int) : Bool := if a = 1 then x else if a = 2 then r else if a = 3 then wr else false
def mayB (v r wr x u a d : Bool) (acc mode : Int) : Bool := !(badB v r wr x u a d) && (r || x) && askB r wr x acc && (if mode = 0 then u else if mode = 3 then !u else false)
def mayW (w : BitVec 32) (acc mode : Int) : Bool := mayB (w.getLsbD 0) (w.getLsbD 1) (w.getLsbD 2) (w.getLsbD 3) (w.getLsbD 4) (w.getLsbD 6) (w.getLsbD 7) acc mode
theorem may_eq (w : BitVec 32) (acc mode : Int) : pte_May.f (U w) acc mode = some (mayW w acc mode) := by
  have e8 : ((8 : Int) = 0) = False := by simp
  have e2 : ((2 : Int) = 0) = False := by simp
  have e4 : ((4 : Int) = 0) = False := by simp
  have e0 : ((0 : Int) = 0) = True := by simp
  unfold pte_May.f mayW mayB askB
  simp only [leaf_eq, bad_eq, badW, bit2, bit4, bit8, bit16, bit16b, bit0, Option.bind_some, e8, e2, e4, e0, if_true, if_false]
  generalize badB _ _ _ _ _ _ _ = bad
  by_cases h1 : acc = 1
  · subst h1; cases bad <;> cases w.getLsbD 1 <;> cases w.getLsbD 3 <;> cases w.getLsbD 4 <;> by_cases hm : mode = 0 <;> by_cases hm3 : mode = 3 <;> simp_all
  by_cases h2 : acc = 2
  · subst h2; cases bad <;> cases w.getLsbD 1 <;> cases w.getLsbD 3 <;> cases w.getLsbD 4 <;> by_cases hm : mode = 0 <;> by_cases hm3 : mode = 3 <;> simp_all
  by_cases h3 : acc = 3
  · subst h3; cases bad <;> cases w.getLsbD 1 <;> cases w.getLsbD 2 <;> cases w.getLsbD 3 <;> cases w.getLsbD 4 <;> by_cases hm : mode = 0 <;> by_cases hm3 : mode = 3 <;> simp_all
  simp [h1, h2, h3]

theorem mask_eq (n : Int) : word_mask.f n = some (U (maskB n)) := by
  unfold word_mask.f maskB
  by_cases h : n ≥ 32
  · rw [if_pos h, if_pos h]; rfl
  · rw [if_neg h, if_neg h, shl_U, mod_U]
    have e1 : BitVec.ofInt 32 1 = 1#32 := rfl
    have e2 : (mx n 0).toNat = n.toNat := by unfold mx; split <;> omega
    congr 2
    rw [e2, e1, Bv.ofInt_sub, ofInt_U, e1]
def makeB (p f : BitVec 32) : BitVec 32 := (p &&& maskB 22) <<< 10 ||| (f &&& maskB 10)
theorem pack2 (p f : BitVec 32) (k : Nat) : word_Pack.f (k + 3) [(⟨10, 22, U p⟩ : S87), (⟨0, 10, U f⟩ : S87)] = some (U (makeB p f)) := by
  have r0 : rd_T87 [(⟨10, 22, U p⟩ : S87), (⟨0, 10, U f⟩ : S87)] 0 = ⟨10, 22, U p⟩ := rfl
  have r1 : rd_T87 [(⟨10, 22, U p⟩ : S87), (⟨0, 10, U f⟩ : S87)] 1 = ⟨0, 10, U f⟩ := rfl
  have w0 : wrap64 (0 + 1) = 1 := by unfold wrap64; omega
  have w1 : wrap64 (1 + 1) = 2 := by unfold wrap64; omega
  have e0 : BitVec.ofInt 32 0 = 0#32 := rfl
  have t10 : (10 : Int).toNat = 10 := rfl
  have t0 : (0 : Int).toNat = 0 := rfl
  unfold word_Pack.f
  simp only [word_Pack.l0, List.length_cons, List.length_nil, r0, mask_eq, Option.bind_some, w0]
  simp only [r1, w1, mask_eq, Option.bind_some, and_U, or_U, shl_U, ofInt_U, e0, t10, t0]
  simp [makeB]
theorem makeB_low (p f : BitVec 32) (i : Nat) (hi : i < 10) : (makeB p f).getLsbD i = f.getLsbD i := by
  unfold makeB
  rw [BitVec.getLsbD_or, BitVec.getLsbD_shiftLeft, BitVec.getLsbD_and, BitVec.getLsbD_and, maskB_bit, maskB_bit]
  have a1 : i < 32 := by omega
  have a2 : (i : Int) < 10 := by omega
  simp [hi, a1, a2]
theorem makeB_high (p f : BitVec 32) (i : Nat) (hi : 10 ≤ i) : (makeB p f).getLsbD i = (decide (i < 32) && p.getLsbD (i - 10)) := by
  unfold makeB
  rw [BitVec.getLsbD_or, BitVec.getLsbD_shiftLeft, BitVec.getLsbD_and, BitVec.getLsbD_and, maskB_bit, maskB_bit]
  have a1 : ¬ i < 10 := by omega
  have a2 : ¬ (i : Int) < 10 := by omega
  by_cases c : i < 32
  · have a3 : ((i - 10 : Nat) : Int) < 22 := by omega
    have a4 : i - 10 < 32 := by omega
    simp [c, a1, a2, a3, a4]
  · simp [c, a2]
/-- The flags laid over one another. -/
def orAll (a : BitVec 32) (l : List (BitVec 32)) : BitVec 32 := l.foldl (· ||| ·) a
theorem rd_map (l : List (BitVec 32)) (i : Nat) (h : i < l.length) : rd (l.map U) (i : Int) = U l[i] := by
  unfold rd
  simp [h]
theorem wrap_succ (i : Nat) (h : i < 4611686018427387904) : wrap64 ((i : Int) + 1) = ((i + 1 : Nat) : Int) := by unfold wrap64; omega
theorem make_loop (p : BitVec 32) (l : List (BitVec 32)) (hl : l.length ≤ 4611686018427387904) (d : Nat) : ∀ (k i : Nat) (a : BitVec 32), i + d = l.length → d + 4 ≤ k →
    pte_Make.l0 k (U p) (U a) (l.map U) (l.length : Int) (i : Int) = some (U (makeB p (orAll a (l.drop i)))) := by
  induction d with
  | zero =>
    intro k i a hi hk
    obtain ⟨k, rfl⟩ : ∃ m, k = m + 4 := ⟨k - 4, by omega⟩
    simp only [pte_Make.l0]
    rw [if_neg (by omega), pack2, List.drop_of_length_le (by omega)]
    rfl
  | succ d ih =>
    intro k i a hi hk
    obtain ⟨k, rfl⟩ : ∃ m, k = m + 1 := ⟨k - 1, by omega⟩
    have hlt : i < l.length := by omega
    simp only [pte_Make.l0]
    rw [if_pos (by omega), if_pos (by omega), if_pos (by rw [List.length_map]; omega), rd_map l i hlt, or_U, ofInt_U, ofInt_U, wrap_succ i (by omega), ih k (i + 1) _ (by omega) (by omega)]
    rw [List.drop_eq_getElem_cons hlt]
    rfl
theorem make_eq (p : BitVec 32) (l : List (BitVec 32)) (hl : l.length ≤ 4611686018427387904) (k : Nat) (hk : l.length + 4 ≤ k) :
    pte_Make.f k (U p) (l.map U) = some (U (makeB p (orAll 0#32 l))) := by
  have h0 : U 0#32 = 0 := rfl
  have := make_loop p l hl l.length k 0 0#32 (by omega) (by omega)
  rw [h0] at this
  unfold pte_Make.f
  rw [List.length_map]
  simpa using this

def bitsB (w : BitVec 32) (lo n : Int) : BitVec 32 := if lo < 0 then 0#32 else (w >>> lo.toNat) &&& maskB n
theorem bitsB_bit (w : BitVec 32) (lo n : Int) (i : Nat) : (bitsB w lo n).getLsbD i = (decide (0 ≤ lo) && (decide ((i : Int) < n) && w.getLsbD (lo.toNat + i))) := by
  unfold bitsB
  by_cases h : lo < 0
  · rw [if_pos h]; have : ¬ 0 ≤ lo := by omega
    simp [this]
  · rw [if_neg h, BitVec.getLsbD_and, maskB_bit, BitVec.getLsbD_ushiftRight]
    have h0 : 0 ≤ lo := by omega
    by_cases hi : i < 32
    · simp [hi, h0, Bool.and_comm]
    · rw [BitVec.getLsbD_of_ge w (lo.toNat + i) (by omega)]; simp
theorem bits_eq (w : BitVec 32) (lo n : Int) : word_Bits.f (U w) lo n = some (U (bitsB w lo n)) := by
  have h0 : (0 : Int) = U 0#32 := rfl
  unfold word_Bits.f
  by_cases h1 : lo < 0
  · rw [if_pos h1]; unfold bitsB; rw [if_pos h1]; rfl
  rw [if_neg h1]
  by_cases h2 : lo ≥ 32
  · rw [if_pos h2]; unfold bitsB; rw [if_neg h1, BitVec.ushiftRight_eq_zero (by omega)]; simp; rfl
  rw [if_neg h2]
  by_cases h3 : n < 1
  · rw [if_pos h3]
    have : bitsB w lo n = 0#32 := by
      apply BitVec.eq_of_getLsbD_eq; intro i hi; rw [bitsB_bit]
      have : ¬ (i : Int) < n := by omega
      simp [this]
    rw [this]; rfl
  rw [if_neg h3, if_pos (by omega)]
  simp only [mask_eq, Option.bind_some, shr_U, and_U, ofInt_U]
  unfold bitsB; rw [if_neg h1]

/-- What an access needs. -/
def needB (e : BitVec 32) (a : Int) : BitVec 32 := if a = 3 then e ||| 128#32 ||| 64#32 else e ||| 64#32
theorem needs_eq (e : BitVec 32) (a : Int) : pte_Needs.f (U e) a = some (U (needB e a)) := by
  have e1 : BitVec.ofInt 32 128 = 128#32 := rfl
  have e2 : BitVec.ofInt 32 64 = 64#32 := rfl
  unfold pte_Needs.f needB
  by_cases h : a = 3
  · rw [if_pos h, if_pos h, or_U, or_U, ofInt_U, ofInt_U, e1, e2]
  · rw [if_neg h, if_neg h, or_U, ofInt_U, e2]
theorem page_eq (e : BitVec 32) : pte_Page.f (U e) = some (U (e >>> 10)) := by
  unfold pte_Page.f; rw [← div_U e 10]; rfl
theorem b64 (i : Nat) : (64#32).getLsbD i = decide (i = 6) := by
  have : (64#32) = BitVec.twoPow 32 6 := by decide
  rw [this, BitVec.getLsbD_twoPow]
  by_cases c : i = 6
  · subst c; rfl
  · have : ¬ 6 = i := fun h => c h.symm
    simp [c, this]
theorem b128 (i : Nat) : (128#32).getLsbD i = decide (i = 7) := by
  have : (128#32) = BitVec.twoPow 32 7 := by decide
  rw [this, BitVec.getLsbD_twoPow]
  by_cases c : i = 7
  · subst c; rfl
  · have : ¬ 7 = i := fun h => c h.symm
    simp [c, this]
theorem needB_bit (e : BitVec 32) (a : Int) (i : Nat) : (needB e a).getLsbD i = (e.getLsbD i || decide (i = 6) || (decide (a = 3) && decide (i = 7))) := by
  unfold needB
  by_cases h : a = 3
  · rw [if_pos h, BitVec.getLsbD_or, BitVec.getLsbD_or, b64, b128]
    cases e.getLsbD i <;> by_cases c : i = 6 <;> by_cases c7 : i = 7 <;> simp [h, c, c7]
  · rw [if_neg h, BitVec.getLsbD_or, b64]
    simp [h]
theorem needB_again (e : BitVec 32) (a : Int) : needB (needB e a) a = needB e a := by
  apply BitVec.eq_of_getLsbD_eq; intro i _
  rw [needB_bit, needB_bit]
  cases e.getLsbD i <;> cases decide (i = 6) <;> cases decide (a = 3) <;> cases decide (i = 7) <;> rfl

theorem wrap_u64 (n : Int) : IntKind.u64.wrap n = n % 18446744073709551616 := by
  simp [IntKind.wrap, IntKind.bits, IntKind.signed]
theorem wraps_u64 (n : Int) (h₀ : 0 ≤ n) (h₁ : n < 2 ^ 64) : IntKind.u64.wrap n = n := by rw [wrap_u64]; omega
theorem wraps_u32 (n : Int) (h₀ : 0 ≤ n) (h₁ : n < 2 ^ 32) : IntKind.u32.wrap n = n := by rw [IntKind.wrap_u32]; omega
theorem join64_12 (x y : Int) (hx₀ : 0 ≤ x) (hx : x % 4096 = 0) (hx₁ : x < 18446744073709551616) (h₀ : 0 ≤ y) (h₁ : y < 4096) : Go.bits .or .u64 x y = x + y :=
  bits_join .u64 64 (by decide) wraps_u64 12 x y hx₀ hx hx₁ h₀ h₁ (by omega)
theorem join64_22 (x y : Int) (hx₀ : 0 ≤ x) (hx : x % 4194304 = 0) (hx₁ : x < 18446744073709551616) (h₀ : 0 ≤ y) (h₁ : y < 4194304) : Go.bits .or .u64 x y = x + y :=
  bits_join .u64 64 (by decide) wraps_u64 22 x y hx₀ hx hx₁ h₀ h₁ (by omega)
theorem join32_12 (x y : Int) (hx₀ : 0 ≤ x) (hx : x % 4096 = 0) (hx₁ : x < 4294967296) (h₀ : 0 ≤ y) (h₁ : y < 4096) : Go.bits .or .u32 x y = x + y :=
  bits_join .u32 32 (by decide) wraps_u32 12 x y hx₀ hx hx₁ h₀ h₁ (by omega)
theorem join32_22 (x y : Int) (hx₀ : 0 ≤ x) (hx : x % 4194304 = 0) (hx₁ : x < 4294967296) (h₀ : 0 ≤ y) (h₁ : y < 4194304) : Go.bits .or .u32 x y = x + y :=
  bits_join .u32 32 (by decide) wraps_u32 22 x y hx₀ hx hx₁ h₀ h₁ (by omega)
/-- The number of some bits. -/
theorem U_bits (w : BitVec 32) (lo n : Nat) : U (bitsB w (lo : Int) (n : Int)) = U w / 2 ^ lo % 2 ^ n := by
  have e : bitsB w (lo : Int) (n : Int) = BitVec.ofNat 32 (w.toNat / 2 ^ lo % 2 ^ n) := by
    apply BitVec.eq_of_getLsbD_eq; intro i hi
    rw [bitsB_bit, BitVec.getLsbD_ofNat, Nat.testBit_mod_two_pow, Nat.testBit_div_two_pow, decide_eq_true hi, decide_eq_true (show (0 : Int) ≤ (lo : Int) by omega), Int.toNat_natCast]
    have : decide ((i : Int) < (n : Int)) = decide (i < n) := decide_eq_decide.2 (by omega)
    rw [this]
    simp only [Bool.true_and, BitVec.getLsbD, Nat.add_comm]
  have hl : w.toNat / 2 ^ lo % 2 ^ n < 2 ^ 32 := by
    have h1 := w.isLt
    have h2 : w.toNat / 2 ^ lo % 2 ^ n ≤ w.toNat / 2 ^ lo := Nat.mod_le _ _
    have h3 : w.toNat / 2 ^ lo ≤ w.toNat := Nat.div_le_self _ _
    omega
  rw [e]
  unfold U
  rw [BitVec.toNat_ofNat, Nat.mod_eq_of_lt hl]
  simp
def causeI (a : Int) (p : Bool) : Int := if a = 1 then (if p = true then 12 else 1) else if a = 2 then (if p = true then 13 else 5) else if a = 3 then (if p = true then 15 else 7) else 2
theorem cause_eq (a : Int) (p : Bool) : pte_Cause.f a p = some (causeI a p) := by
  unfold pte_Cause.f causeI
  by_cases h1 : a = 1
  · simp only [h1, if_true]; split <;> rfl
  by_cases h2 : a = 2
  · simp only [h2]; cases p <;> rfl
  by_cases h3 : a = 3
  · simp only [h3]; cases p <;> rfl
  simp only [if_neg h1, if_neg h2, if_neg h3]
/-- What comes next: its kind, a place, an entry's place, its value, a cause. -/
abbrev Stp := Int × Int × Int × Int × Int
def faultR (acc : Int) (p : Bool) : Stp := (2, 0, 0, 0, causeI acc p)
theorem fault_eq (acc : Int) (p : Bool) : walk_fault.f acc p = some (faultR acc p) := by
  unfold walk_fault.f; rw [cause_eq]; rfl
/-- What comes of a leaf. -/
def leafR (e : BitVec 32) (at_ mode : Int) (va : BitVec 32) (acc lv : Int) : Stp :=
  if mayW e acc mode = true ∧ ¬ (lv > 0 ∧ U e / 1024 % 1024 ≠ 0) then
    (if needB e acc = e then (if U e / 1024 * 4096 + U va % 2 ^ (12 + 10 * lv).toNat < 4294967296 then (1, U e / 1024 * 4096 + U va % 2 ^ (12 + 10 * lv).toNat, 0, 0, 0) else faultR acc false)
    else (4, 0, at_, U (needB e acc), 0))
  else faultR acc true
theorem leaf_j0 (e va : BitVec 32) (at_ mode acc lv : Int) (hlv : lv = 0 ∨ lv = 1) (k : Nat) (hm : mayW e acc mode = true) (hal : ¬ (lv > 0 ∧ U e / 1024 % 1024 ≠ 0)) :
    walk_leaf.j0 (k + 1) (U e) at_ (U va) acc (12 + 10 * lv) (U e / 1024) false = some (leafR e at_ mode va acc lv) := by
  have hu := U_lt e
  have h0 := U_nonneg e
  have hb : word_Bits.f (U va) 0 (12 + 10 * lv) = some (U va % 2 ^ (12 + 10 * lv).toNat) := by
    rcases hlv with rfl | rfl
    · rw [bits_eq, show bitsB va 0 (12 + 10 * 0) = bitsB va ((0 : Nat) : Int) ((12 : Nat) : Int) from rfl, U_bits]; simp
    · rw [bits_eq, show bitsB va 0 (12 + 10 * 1) = bitsB va ((0 : Nat) : Int) ((22 : Nat) : Int) from rfl, U_bits]; simp
  have hv := U_nonneg va
  simp only [walk_leaf.j0]
  rw [if_neg (by decide), needs_eq, Option.bind_some]
  have hR : leafR e at_ mode va acc lv = (if needB e acc = e then (if U e / 1024 * 4096 + U va % 2 ^ (12 + 10 * lv).toNat < 4294967296 then (1, U e / 1024 * 4096 + U va % 2 ^ (12 + 10 * lv).toNat, 0, 0, 0) else faultR acc false) else (4, 0, at_, U (needB e acc), 0)) := if_pos ⟨hm, hal⟩
  rw [hR]
  by_cases hn : needB e acc = e
  · rw [if_pos (by rw [hn]), if_pos hn, hb, Option.bind_some]
    have hw1 : IntKind.u64.wrap (U e / 1024) = U e / 1024 := by rw [wrap_u64]; omega
    have hw2 : IntKind.u64.wrap (U e / 1024 * 4096) = U e / 1024 * 4096 := by rw [wrap_u64]; omega
    have hjoin : Go.bits .or .u64 (IntKind.u64.wrap (IntKind.u64.wrap (U e / 1024) * 4096)) (IntKind.u64.wrap (U va % 2 ^ (12 + 10 * lv).toNat)) = U e / 1024 * 4096 + U va % 2 ^ (12 + 10 * lv).toNat := by
      rw [hw1, hw2]
      rcases hlv with rfl | rfl
      · have e12 : (2 : Int) ^ (12 + 10 * (0 : Int)).toNat = 4096 := by decide
        rw [e12, show IntKind.u64.wrap (U va % 4096) = U va % 4096 by rw [wrap_u64]; omega]
        exact join64_12 _ _ (by omega) (by omega) (by omega) (by omega) (by omega)
      · have e22 : (2 : Int) ^ (12 + 10 * (1 : Int)).toNat = 4194304 := by decide
        have hz : U e / 1024 % 1024 = 0 := by
          by_cases c : U e / 1024 % 1024 = 0
          · exact c
          · exact absurd ⟨by decide, c⟩ hal
        rw [e22, show IntKind.u64.wrap (U va % 4194304) = U va % 4194304 by rw [wrap_u64]; omega]
        exact join64_22 _ _ (by omega) (by omega) (by omega) (by omega) (by omega)
    have hpos : 0 ≤ U va % 2 ^ (12 + 10 * lv).toNat := by
      rcases hlv with rfl | rfl
      · have e12 : (2 : Int) ^ (12 + 10 * (0 : Int)).toNat = 4096 := by decide
        rw [e12]; omega
      · have e22 : (2 : Int) ^ (12 + 10 * (1 : Int)).toNat = 4194304 := by decide
        rw [e22]; omega
    rw [hjoin]
    generalize U va % 2 ^ (12 + 10 * lv).toNat = q at *
    by_cases c : U e / 1024 * 4096 + q < 4294967296
    · rw [if_pos (by omega), if_pos c, show (U e / 1024 * 4096 + q) % 4294967296 = U e / 1024 * 4096 + q by omega]
    · rw [if_neg (by omega), if_neg c, fault_eq]; rfl
  · rw [if_neg (fun h => hn ((U_inj _ _).1 h)), if_neg hn]
theorem leaf_step (e va : BitVec 32) (at_ mode acc lv : Int) (hlv : lv = 0 ∨ lv = 1) (k : Nat) (hk : 1 ≤ k) : walk_leaf.f k (U e) at_ mode (U va) acc lv = some (leafR e at_ mode va acc lv) := by
  obtain ⟨k, rfl⟩ : ∃ m, k = m + 1 := ⟨k - 1, by omega⟩
  have hu := U_lt e
  have h0 := U_nonneg e
  have hbad : walk_leaf.j0 (k + 1) (U e) at_ (U va) acc (12 + 10 * lv) (U e / 1024) true = some (faultR acc true) := by
    simp only [walk_leaf.j0]; rw [if_pos trivial, fault_eq]; rfl
  have ep : pte_Page.f (U e) = some (U e / 1024) := rfl
  have ew : wrap64 (12 + wrap64 (10 * lv)) = 12 + 10 * lv := by rcases hlv with rfl | rfl <;> (unfold wrap64; omega)
  have hb : word_Bits.f (U e / 1024) 0 10 = some (U e / 1024 % 1024) := by
    have : U e / (1024 : Int) = U (e >>> 10) := by rw [← div_U e 10]; rfl
    rw [this, bits_eq, show bitsB (e >>> 10) 0 10 = bitsB (e >>> 10) ((0 : Nat) : Int) ((10 : Nat) : Int) from rfl, U_bits]; simp
  unfold walk_leaf.f
  rw [ep, Option.bind_some, may_eq, Option.bind_some, ew]
  cases hm : mayW e acc mode with
  | false =>
    rw [if_neg (by decide), hbad]
    unfold leafR; rw [if_neg (by rw [hm]; simp)]
  | true =>
    rw [if_pos rfl]
    by_cases hl : lv > 0
    · rw [if_pos hl, hb, Option.bind_some]
      by_cases hz : U e / 1024 % 1024 = 0
      · rw [show (U e / 1024 % 1024 != 0) = false by rw [hz]; rfl]
        exact leaf_j0 e va at_ mode acc lv hlv k hm (fun h => h.2 hz)
      · rw [show (U e / 1024 % 1024 != 0) = true by simpa [bne] using hz, hbad]
        unfold leafR; rw [if_neg (fun h => h.2 ⟨hl, hz⟩)]
    · rw [if_neg hl]
      exact leaf_j0 e va at_ mode acc lv hlv k hm (fun h => hl h.1)
/-- Where an entry lies. -/
def atI (t : Int) (va : BitVec 32) (lv : Int) : Int := t * 4096 + 4 * (U va / 2 ^ (12 + 10 * lv).toNat % 1024)
theorem at_bd (t : Int) (h0 : 0 ≤ t) (h1 : t < 4194304) (va : BitVec 32) (lv : Int) (hlv : lv = 0 ∨ lv = 1) : 0 ≤ atI t va lv ∧ atI t va lv < 17179873280 := by
  unfold atI; rcases hlv with rfl | rfl <;> omega
/-- Does an entry lie in memory? -/
def inMem (a bytes : Int) : Prop := a < 4294967296 ∧ a + 4 ≤ mx bytes 0
instance (a bytes : Int) : Decidable (inMem a bytes) := inferInstanceAs (Decidable (_ ∧ _))
def leafW (w : BitVec 32) : Bool := w.getLsbD 1 || w.getLsbD 3
/-- What comes of the entry that was read at a place, at a level; 'next': where it leads on. -/
def entR (mode : Int) (va : BitVec 32) (acc lv a : Int) (e : S52) (next : BitVec 32 → Stp × Int) : Stp × Int :=
  if e.f0 = a ∧ badW (BitVec.ofInt 32 e.f1) = false then
    (if leafW (BitVec.ofInt 32 e.f1) = true then (leafR (BitVec.ofInt 32 e.f1) a mode va acc lv, 2 - lv) else next (BitVec.ofInt 32 e.f1))
  else (faultR acc true, 2 - lv)
def lv0R (mode : Int) (va : BitVec 32) (acc bytes : Int) (l : List S52) (t : Int) : Stp × Int :=
  if inMem (atI t va 0) bytes then
    (if l.length = 1 then ((3, 0, atI t va 0, 0, 0), 1) else entR mode va acc 0 (atI t va 0) (l.getD 1 z52) (fun _ => (faultR acc true, 2)))
  else (faultR acc false, 1)
def lv1R (mode : Int) (va : BitVec 32) (acc bytes : Int) (l : List S52) (t : Int) : Stp × Int :=
  if inMem (atI t va 1) bytes then
    (if l.length = 0 then ((3, 0, atI t va 1, 0, 0), 0) else entR mode va acc 1 (atI t va 1) (l.getD 0 z52) (fun v => lv0R mode va acc bytes l (U v / 1024)))
  else (faultR acc false, 0)
def flat (r : Stp × Int) : Int × Int × Int × Int × Int × Int := (r.1.1, r.1.2.1, r.1.2.2.1, r.1.2.2.2.1, r.1.2.2.2.2, r.2)
theorem at_eq (t : Int) (h0 : 0 ≤ t) (h1 : t < 4194304) (va : BitVec 32) (lv : Int) (hlv : lv = 0 ∨ lv = 1) :
    word_Bits.f (U va) (wrap64 (12 + wrap64 (10 * lv))) 10 = some (U va / 2 ^ (12 + 10 * lv).toNat % 1024) ∧
    (IntKind.u64.wrap ((IntKind.u64.wrap ((IntKind.u64.wrap (t)) * 4096)) + (IntKind.u64.wrap (4 * (IntKind.u64.wrap (U va / 2 ^ (12 + 10 * lv).toNat % 1024)))))) = atI t va lv := by
  have hv := U_nonneg va
  have hv2 := U_lt va
  constructor
  · rcases hlv with rfl | rfl
    · have : wrap64 (12 + wrap64 (10 * 0)) = 12 := by unfold wrap64; omega
      rw [this, bits_eq, show bitsB va 12 10 = bitsB va ((12 : Nat) : Int) ((10 : Nat) : Int) from rfl, U_bits]; simp
    · have : wrap64 (12 + wrap64 (10 * 1)) = 22 := by unfold wrap64; omega
      rw [this, bits_eq, show bitsB va 22 10 = bitsB va ((22 : Nat) : Int) ((10 : Nat) : Int) from rfl, U_bits]; simp
  · unfold atI
    rcases hlv with rfl | rfl
    · have e12 : (2 : Int) ^ (12 + 10 * (0 : Int)).toNat = 4096 := by decide
      rw [e12]; simp only [wrap_u64]; omega
    · have e22 : (2 : Int) ^ (12 + 10 * (1 : Int)).toNat = 4194304 := by decide
      rw [e22]; simp only [wrap_u64]; omega
theorem fault6 (acc : Int) (p : Bool) (u : Int) : ((walk_fault.f acc p).bind fun bt => some (bt.1, bt.2.1, bt.2.2.1, bt.2.2.2.1, bt.2.2.2.2, u)) = some (flat (faultR acc p, u)) := by
  rw [fault_eq]; rfl
/-- A row of entries whose values are words. -/
def Words (l : List S52) : Prop := ∀ e ∈ l, ∃ v : BitVec 32, e.f1 = U v
theorem getD_word {l : List S52} (h : Words l) (i : Nat) : ∃ v : BitVec 32, (l.getD i z52).f1 = U v := by
  by_cases c : i < l.length
  · rw [List.getD_eq_getElem?_getD, List.getElem?_eq_getElem c]; exact h _ (List.getElem_mem c)
  · rw [List.getD_eq_getElem?_getD, List.getElem?_eq_none (by omega)]; exact ⟨0#32, rfl⟩
theorem ent_j2 (mode : Int) (va : BitVec 32) (acc bytes : Int) (l : List S52) (lv a : Int) (hlv : lv = 0 ∨ lv = 1) (e : S52) (hv : ∃ v : BitVec 32, e.f1 = U v) (next : BitVec 32 → Stp × Int) (k : Nat) (hk : 1 ≤ k)
    (a' : Int) (ha : a' % 4294967296 = a)
    (hnext : ∀ v : BitVec 32, walk_next.l0 k mode (U va) acc bytes l (U v / 1024) (wrap64 (lv - 1)) = some (flat (next v))) :
    (if e.f0 = a then (pte_Bad.f e.f1).bind fun t145 => walk_next.j2 (k + 1) mode (U va) acc bytes l lv (wrap64 (1 - lv)) a' e.f1 t145 else walk_next.j2 (k + 1) mode (U va) acc bytes l lv (wrap64 (1 - lv)) a' e.f1 true) = some (flat (entR mode va acc lv a e next)) := by
  obtain ⟨v, hv⟩ := hv
  have eu : wrap64 (wrap64 (1 - lv) + 1) = 2 - lv := by rcases hlv with rfl | rfl <;> (unfold wrap64; omega)
  have hbad : walk_next.j2 (k + 1) mode (U va) acc bytes l lv (wrap64 (1 - lv)) a' e.f1 true = some (flat (faultR acc true, 2 - lv)) := by
    simp only [walk_next.j2]; rw [if_pos trivial, eu, fault6]
  unfold entR
  rw [hv] at hbad ⊢
  rw [ofInt_U]
  by_cases c : e.f0 = a
  · rw [if_pos c, bad_eq, Option.bind_some]
    cases hb : badW v with
    | true => rw [hbad, if_neg (by simp)]
    | false =>
      rw [if_pos ⟨c, rfl⟩]
      simp only [walk_next.j2]
      rw [if_neg (by decide), leaf_eq, Option.bind_some, ha, eu]
      unfold leafW
      cases hl : (v.getLsbD 1 || v.getLsbD 3) with
      | true => rw [if_pos rfl, if_pos rfl, leaf_step v va a mode acc lv hlv k hk, Option.bind_some]; rfl
      | false =>
        rw [if_neg (by decide), if_neg (by decide), show pte_Page.f (U v) = some (U v / 1024) from rfl, Option.bind_some]
        exact hnext v
  · rw [if_neg c, hbad, if_neg (fun h => c h.1)]
theorem lv_end (mode : Int) (va : BitVec 32) (acc bytes : Int) (l : List S52) (t : Int) (k : Nat) : walk_next.l0 (k + 1) mode (U va) acc bytes l t (-1) = some (flat (faultR acc true, 2)) := by
  simp only [walk_next.l0]; rw [if_neg (by decide), fault6]
theorem wr64 (x : Int) (h0 : 0 ≤ x) (h : x < 17179873290) : IntKind.u64.wrap (x + 4) = x + 4 := by rw [wrap_u64]; omega
theorem mxw (b : Int) (h : b ≤ 9223372036854775807) : IntKind.u64.wrap (mx b 0) = mx b 0 := by rw [wrap_u64]; unfold mx; split <;> omega
theorem lv_step (mode : Int) (va : BitVec 32) (acc bytes : Int) (hb : bytes ≤ 9223372036854775807) (l : List S52) (hl : Words l) (t : Int) (h0 : 0 ≤ t) (h1 : t < 4194304) (lv : Int) (hlv : lv = 0 ∨ lv = 1) (hlen : 1 - lv ≤ l.length)
    (next : BitVec 32 → Stp × Int) (k : Nat) (hk : 1 ≤ k) (hnext : ∀ v : BitVec 32, walk_next.l0 k mode (U va) acc bytes l (U v / 1024) (wrap64 (lv - 1)) = some (flat (next v))) :
    walk_next.l0 (k + 3) mode (U va) acc bytes l t lv = some (flat (if inMem (atI t va lv) bytes then (if (l.length : Int) = 1 - lv then ((3, 0, atI t va lv, 0, 0), 1 - lv) else entR mode va acc lv (atI t va lv) (l.getD (1 - lv).toNat z52) next) else (faultR acc false, 1 - lv))) := by
  obtain ⟨e1, e2⟩ := at_eq t h0 h1 va lv hlv
  obtain ⟨b0, b1⟩ := at_bd t h0 h1 va lv hlv
  have eu : wrap64 (1 - lv) = 1 - lv := by rcases hlv with rfl | rfl <;> (unfold wrap64; omega)
  have hf : ∀ x18, walk_next.j1 (k + 2) mode (U va) acc bytes l lv (wrap64 (1 - lv)) x18 true = some (flat (faultR acc false, 1 - lv)) := by
    intro x18; simp only [walk_next.j1]; rw [if_pos trivial, fault6, eu]
  rw [walk_next.l0.eq_2]
  rw [if_pos (by omega), e1, Option.bind_some, e2, mxw bytes hb, wr64 _ b0 (by omega)]
  by_cases c1 : atI t va lv < 4294967296
  · rw [if_pos (by omega)]
    by_cases c2 : atI t va lv + 4 > mx bytes 0
    · rw [decide_eq_true c2, hf, if_neg (fun h => by have := h.2; omega)]
    · rw [decide_eq_false c2, if_pos (show inMem _ _ from ⟨c1, by omega⟩)]
      rw [walk_next.j1.eq_2]
      have em : atI t va lv % 4294967296 = atI t va lv := by omega
      rw [if_neg (by decide), eu, em]
      by_cases c3 : (l.length : Int) = 1 - lv
      · rw [if_pos c3.symm, if_pos c3]; rfl
      · rw [if_neg (fun h => c3 h.symm), if_neg c3, if_pos (by omega), if_pos (by omega)]
        have := ent_j2 mode va acc bytes l lv (atI t va lv) hlv (l.getD (1 - lv).toNat z52) (getD_word hl _) next k hk (atI t va lv) em hnext
        rw [eu] at this
        exact this
  · rw [if_neg (by omega), hf, if_neg (fun h => c1 h.1)]
theorem U_page (v : BitVec 32) : 0 ≤ U v / 1024 ∧ U v / 1024 < 4194304 := by have := U_lt v; have := U_nonneg v; omega
theorem lv0_eq (mode : Int) (va : BitVec 32) (acc bytes : Int) (hb : bytes ≤ 9223372036854775807) (l : List S52) (hl : Words l) (hlen : 1 ≤ l.length) (t : Int) (h0 : 0 ≤ t) (h1 : t < 4194304) (k : Nat) (hk : 4 ≤ k) :
    walk_next.l0 k mode (U va) acc bytes l t 0 = some (flat (lv0R mode va acc bytes l t)) := by
  obtain ⟨k, rfl⟩ : ∃ m, k = m + 1 + 3 := ⟨k - 4, by omega⟩
  have ew : wrap64 (0 - 1) = -1 := by unfold wrap64; omega
  rw [lv_step mode va acc bytes hb l hl t h0 h1 0 (.inl rfl) (by omega) (fun _ => (faultR acc true, 2)) (k + 1) (by omega) (fun v => by rw [ew]; exact lv_end _ _ _ _ _ _ _)]
  unfold lv0R
  have e1 : ((l.length : Int) = 1 - 0) = (l.length = 1) := propext (by omega)
  simp only [e1]
  rfl
theorem lv1_eq (mode : Int) (va : BitVec 32) (acc bytes : Int) (hb : bytes ≤ 9223372036854775807) (l : List S52) (hl : Words l) (t : Int) (h0 : 0 ≤ t) (h1 : t < 4194304) (k : Nat) (hk : 7 ≤ k) :
    walk_next.l0 k mode (U va) acc bytes l t 1 = some (flat (lv1R mode va acc bytes l t)) := by
  obtain ⟨k, rfl⟩ : ∃ m, k = m + 3 := ⟨k - 3, by omega⟩
  have ew : wrap64 (1 - 1) = 0 := by unfold wrap64; omega
  by_cases hn : l.length = 0
  · have e0 : l = [] := List.length_eq_zero_iff.1 hn
    subst e0
    obtain ⟨b0, b1⟩ := at_bd t h0 h1 va 1 (.inr rfl)
    obtain ⟨e1, e2⟩ := at_eq t h0 h1 va 1 (.inr rfl)
    have eu : wrap64 (1 - 1) = 0 := by unfold wrap64; omega
    unfold lv1R
    rw [walk_next.l0.eq_2, if_pos (by decide), e1, Option.bind_some, e2, mxw bytes hb, wr64 _ b0 (by omega), eu]
    have hf : ∀ x18, walk_next.j1 (k + 2) mode (U va) acc bytes [] 1 0 x18 true = some (flat (faultR acc false, 0)) := by
      intro x18; rw [walk_next.j1.eq_2]; rw [if_pos rfl, fault6]
    by_cases c1 : atI t va 1 < 4294967296
    · rw [if_pos (by omega)]
      by_cases c2 : atI t va 1 + 4 > mx bytes 0
      · rw [decide_eq_true c2, hf, if_neg (fun h => by have := h.2; omega)]
      · rw [decide_eq_false c2, if_pos (show inMem _ _ from ⟨c1, by omega⟩), walk_next.j1.eq_2]
        rw [if_neg (by decide), if_pos (by simp), if_pos (by simp), show atI t va 1 % 4294967296 = atI t va 1 by omega]; rfl
    · rw [if_neg (by omega), hf, if_neg (fun h => c1 h.1)]
  · rw [lv_step mode va acc bytes hb l hl t h0 h1 1 (.inr rfl) (by omega) (fun v => lv0R mode va acc bytes l (U v / 1024)) k (by omega) (fun v => by
      rw [ew]; exact lv0_eq mode va acc bytes hb l hl (by omega) _ (U_page v).1 (U_page v).2 k (by omega))]
    unfold lv1R
    have e1 : ((l.length : Int) = 1 - 1) = (l.length = 0) := propext (by omega)
    simp only [e1]
    rfl
def entries (satp : BitVec 32) (mode : Int) : Int := if mode = 3 then 0 else if U satp / 2147483648 = 0 then 0 else 2
theorem entries_eq (satp : BitVec 32) (mode : Int) : walk_Entries.f (U satp) mode = some (entries satp mode) := by
  have hu := U_lt satp
  have h0 := U_nonneg satp
  unfold walk_Entries.f entries
  by_cases c : mode = 3
  · rw [if_pos c, if_pos c]
  · rw [if_neg c, if_neg c, bits_eq, show bitsB satp 31 1 = bitsB satp ((31 : Nat) : Int) ((1 : Nat) : Int) from rfl, U_bits, Option.bind_some]
    have e : U satp / 2 ^ 31 % 2 ^ 1 = U satp / 2147483648 := by omega
    rw [e]
    split <;> rfl
def nextR (satp : BitVec 32) (mode : Int) (va : BitVec 32) (acc bytes : Int) (l : List S52) : Stp × Int :=
  if entries satp mode = 0 then ((1, U va, 0, 0, 0), 0) else lv1R mode va acc bytes l (U satp % 4194304)
theorem next_eq (satp : BitVec 32) (mode : Int) (va : BitVec 32) (acc bytes : Int) (hb : bytes ≤ 9223372036854775807) (l : List S52) (hl : Words l) (k : Nat) (hk : 7 ≤ k) :
    walk_next.f k (U satp) mode (U va) acc bytes l = some (flat (nextR satp mode va acc bytes l)) := by
  have h0 := U_nonneg satp
  unfold walk_next.f nextR
  rw [entries_eq, Option.bind_some]
  by_cases c : entries satp mode = 0
  · rw [if_pos c, if_pos c]; rfl
  · rw [if_neg c, if_neg c, bits_eq, show bitsB satp 0 22 = bitsB satp ((0 : Nat) : Int) ((22 : Nat) : Int) from rfl, U_bits, Option.bind_some]
    have e : U satp / 2 ^ 0 % 2 ^ 22 = U satp % 4194304 := by omega
    rw [e]
    exact lv1_eq mode va acc bytes hb l hl _ (by omega) (by omega) k hk
/-- What comes next, by any entries. -/
def NextR (satp : BitVec 32) (mode : Int) (va : BitVec 32) (acc bytes : Int) (l : List S52) : Stp :=
  if (nextR satp mode va acc bytes l).2 < (l.length : Int) then faultR acc true else (nextR satp mode va acc bytes l).1
theorem Next_eq (satp : BitVec 32) (mode : Int) (va : BitVec 32) (acc bytes : Int) (hb : bytes ≤ 9223372036854775807) (l : List S52) (hl : Words l) (k : Nat) (hk : 7 ≤ k) :
    walk_Next.f k (U satp) mode (U va) acc bytes l = some (NextR satp mode va acc bytes l) := by
  unfold walk_Next.f NextR
  rw [next_eq satp mode va acc bytes hb l hl k hk, Option.bind_some]
  unfold flat
  by_cases c : (nextR satp mode va acc bytes l).2 < (l.length : Int)
  · rw [if_pos c, if_pos c, fault_eq]; rfl
  · rw [if_neg c, if_neg c]

theorem make2 (k : Nat) (hk : 5 ≤ k) : pte_Make.f k 2 [1] = some 2049 := by
  have h := make_eq 2#32 [1#32] (by simp) k (by simpa using hk)
  have e : makeB 2#32 (orAll 0#32 [1#32]) = 2049#32 := by decide
  rw [e] at h
  exact h
theorem low10 (x : Int) (h0 : 0 ≤ x) (h1 : x < 4294967296) : Go.bits .and .u32 x 1023 = x % 1024 :=
  bits_mask .u32 32 (by decide) wraps_u32 10 (by decide) x h0 h1
theorem sat_on : entries 2147483649#32 0 = 2 := by decide
theorem sat_off : entries 0#32 0 = 0 := by decide
theorem sat_t : U 2147483649#32 % 4194304 = 1 := by decide
theorem at1 (va : BitVec 32) : atI 1 va 1 = 4096 + 4 * (U va / 4194304) := by
  have := U_lt va
  have := U_nonneg va
  unfold atI
  have e22 : (2 : Int) ^ (12 + 10 * (1 : Int)).toNat = 4194304 := by decide
  rw [e22]; omega
theorem at2 (va : BitVec 32) : atI 2 va 0 = 8192 + 4 * (U va / 4096 % 1024) := by
  unfold atI
  have e12 : (2 : Int) ^ (12 + 10 * (0 : Int)).toNat = 4096 := by decide
  rw [e12]; omega
theorem in1 (va : BitVec 32) : inMem (atI 1 va 1) 65536 := by
  have := U_lt va
  have := U_nonneg va
  have e : mx 65536 0 = 65536 := by decide
  rw [at1]; unfold inMem; rw [e]; omega
theorem out1 (va : BitVec 32) : ¬ inMem (atI 1 va 1) 4096 := by
  have := U_lt va
  have := U_nonneg va
  have e : mx 4096 0 = 4096 := by decide
  rw [at1]; unfold inMem; rw [e]; omega
theorem in2 (va : BitVec 32) : inMem (atI 2 va 0) 65536 := by
  have := U_nonneg va
  have e : mx 65536 0 = 65536 := by decide
  rw [at2]; unfold inMem; rw [e]; omega
theorem bad2 : badW (BitVec.ofInt 32 2049) = false := by decide
theorem leaf2 : leafW (BitVec.ofInt 32 2049) = false := by decide
theorem page2 : U (BitVec.ofInt 32 2049) / 1024 = 2 := by decide
theorem low12 (x : Int) (h0 : 0 ≤ x) (h1 : x < 4294967296) : Go.bits .and .u32 x 4095 = x % 4096 :=
  bits_mask .u32 32 (by decide) wraps_u32 12 (by decide) x h0 h1
/-- A table's entry, and the one that it leads to. -/
def two (va e : BitVec 32) : List S52 := [⟨4096 + 4 * (U va / 4194304), 2049, 0, 0, false⟩, ⟨8192 + 4 * (U va / 4096 % 1024), U e, 0, 0, false⟩]
theorem list_two (va e : BitVec 32) : [(⟨(4096 + 4 * (U va / 4194304)) % 4294967296, 2049, 0, 0, false⟩ : S52), (⟨(8192 + 4 * (U va / 4096 % 1024)) % 4294967296, U e, 0, 0, false⟩ : S52)] = two va e := by
  have := U_lt va
  have := U_nonneg va
  unfold two
  rw [show (4096 + 4 * (U va / 4194304)) % 4294967296 = 4096 + 4 * (U va / 4194304) by omega, show (8192 + 4 * (U va / 4096 % 1024)) % 4294967296 = 8192 + 4 * (U va / 4096 % 1024) by omega]
theorem words_two (va e : BitVec 32) : Words (two va e) := by
  intro x hx
  unfold two at hx
  rcases List.mem_cons.1 hx with rfl | hx
  · exact ⟨2049#32, rfl⟩
  · rw [List.mem_singleton.1 hx]; exact ⟨e, rfl⟩
/-- A leaf in the second table. -/
theorem next_second (va e : BitVec 32) (acc : Int) (hb : badW e = false) (hl : leafW e = true) : NextR 2147483649#32 0 va acc 65536 (two va e) = leafR e (8192 + 4 * (U va / 4096 % 1024)) 0 va acc 0 := by
  have h : nextR 2147483649#32 0 va acc 65536 (two va e) = (leafR e (8192 + 4 * (U va / 4096 % 1024)) 0 va acc 0, 2) := by
    unfold nextR lv1R entR lv0R entR two
    rw [sat_on, if_neg (by decide), sat_t, if_pos (in1 va), if_neg (by simp)]
    simp only [List.getD_cons_zero, List.getD_cons_succ, bad2, leaf2, page2, at1, at2, ofInt_U, hb, hl, and_self, if_true, true_and]
    rw [if_neg (by decide), if_pos (by have := in2 va; rw [at2] at this; exact this), if_neg (by simp)]
    rfl
  unfold NextR
  rw [h, if_neg (by unfold two; simp)]
theorem next_second_bad (va e : BitVec 32) (acc : Int) (hb : badW e = true) : NextR 2147483649#32 0 va acc 65536 (two va e) = faultR acc true := by
  have h : nextR 2147483649#32 0 va acc 65536 (two va e) = (faultR acc true, 2) := by
    unfold nextR lv1R entR lv0R entR two
    rw [sat_on, if_neg (by decide), sat_t, if_pos (in1 va), if_neg (by simp)]
    simp only [List.getD_cons_zero, List.getD_cons_succ, bad2, leaf2, page2, at1, at2, ofInt_U, hb, and_self, if_true, true_and]
    rw [if_neg (by decide), if_pos (by have := in2 va; rw [at2] at this; exact this), if_neg (by simp), if_neg (by simp)]
    rfl
  unfold NextR
  rw [h, if_neg (by unfold two; simp)]

theorem first_true : corrallaw9_first.f 100 = some true := by decide +kernel
def one (va e : BitVec 32) : List S52 := [⟨4096 + 4 * (U va / 4194304), U e, 0, 0, false⟩]
theorem list_one (va e : BitVec 32) : [(⟨(4096 + 4 * (U va / 4194304)) % 4294967296, U e, 0, 0, false⟩ : S52)] = one va e := by
  have := U_lt va
  have := U_nonneg va
  unfold one
  rw [show (4096 + 4 * (U va / 4194304)) % 4294967296 = 4096 + 4 * (U va / 4194304) by omega]
theorem words_one (va e : BitVec 32) : Words (one va e) := by
  intro x hx
  unfold one at hx
  rw [List.mem_singleton.1 hx]; exact ⟨e, rfl⟩
/-- A leaf in the first table. -/
theorem next_first (va e : BitVec 32) (acc : Int) (hb : badW e = false) (hl : leafW e = true) : NextR 2147483649#32 0 va acc 65536 (one va e) = leafR e (4096 + 4 * (U va / 4194304)) 0 va acc 1 := by
  have h : nextR 2147483649#32 0 va acc 65536 (one va e) = (leafR e (4096 + 4 * (U va / 4194304)) 0 va acc 1, 1) := by
    unfold nextR lv1R entR one
    rw [sat_on, if_neg (by decide), sat_t, if_pos (in1 va), if_neg (by simp)]
    simp only [List.getD_cons_zero, at1, ofInt_U, hb, hl, and_self, if_true]
    rfl
  unfold NextR
  rw [h, if_neg (by unfold one; simp)]
theorem next_first_bad (va e : BitVec 32) (acc : Int) (hb : badW e = true) : NextR 2147483649#32 0 va acc 65536 (one va e) = faultR acc true := by
  have h : nextR 2147483649#32 0 va acc 65536 (one va e) = (faultR acc true, 1) := by
    unfold nextR lv1R entR one
    rw [sat_on, if_neg (by decide), sat_t, if_pos (in1 va), if_neg (by simp)]
    simp only [List.getD_cons_zero, at1, ofInt_U, hb]
    rw [if_neg (by simp)]
    rfl
  unfold NextR
  rw [h, if_neg (by unfold one; simp)]
/-- Flags that are whole: an entry that is there, used and written. -/
structure Whole (f : BitVec 32) : Prop where
  v : f.getLsbD 0 = true
  a : f.getLsbD 6 = true
  d : f.getLsbD 7 = true
  x : (f.getLsbD 1 || f.getLsbD 3) = true
/-- May it be used, in User? -/
def good (f : BitVec 32) (acc : Int) : Bool := f.getLsbD 4 && (askB (f.getLsbD 1) (f.getLsbD 2) (f.getLsbD 3) acc && !(f.getLsbD 2 && !f.getLsbD 1))
theorem bad_of (p f : BitVec 32) (h : Whole f) : badW (makeB p f) = (f.getLsbD 2 && !f.getLsbD 1) := by
  unfold badW badB
  rw [makeB_low p f 0 (by decide), makeB_low p f 1 (by decide), makeB_low p f 2 (by decide), makeB_low p f 3 (by decide), makeB_low p f 4 (by decide), makeB_low p f 6 (by decide), makeB_low p f 7 (by decide), h.v, h.a, h.d, h.x]
  simp
theorem leaf_of (p f : BitVec 32) (h : Whole f) : leafW (makeB p f) = true := by
  unfold leafW
  rw [makeB_low p f 1 (by decide), makeB_low p f 3 (by decide), h.x]
theorem may_of (p f : BitVec 32) (h : Whole f) (acc : Int) (hb : (f.getLsbD 2 && !f.getLsbD 1) = false) : mayW (makeB p f) acc 0 = good f acc := by
  unfold mayW mayB badB good
  rw [makeB_low p f 0 (by decide), makeB_low p f 1 (by decide), makeB_low p f 2 (by decide), makeB_low p f 3 (by decide), makeB_low p f 4 (by decide), makeB_low p f 6 (by decide), makeB_low p f 7 (by decide), h.v, h.a, h.d, h.x, hb]
  simp [Bool.and_comm]
theorem need_of (p f : BitVec 32) (h : Whole f) (acc : Int) : needB (makeB p f) acc = makeB p f := by
  apply BitVec.eq_of_getLsbD_eq; intro i hi
  rw [needB_bit]
  by_cases c6 : i = 6
  · subst c6; rw [makeB_low p f 6 (by decide), h.a]; rfl
  by_cases c7 : i = 7
  · subst c7; rw [makeB_low p f 7 (by decide), h.d]; rfl
  simp [c6, c7]
theorem page_of (p f : BitVec 32) (hp : U p < 4194304) : U (makeB p f) / 1024 = U p := by
  have : U (makeB p f) / (1024 : Int) = U (makeB p f >>> 10) := by rw [← div_U _ 10]; rfl
  rw [this]
  congr 1
  apply BitVec.eq_of_getLsbD_eq; intro i hi
  rw [BitVec.getLsbD_ushiftRight, makeB_high p f _ (by omega), show 10 + i - 10 = i by omega]
  by_cases c : i < 22
  · rw [decide_eq_true (show 10 + i < 32 by omega)]; simp
  · rw [decide_eq_false (show ¬ 10 + i < 32 by omega)]
    have hn : p.toNat < 2 ^ i := by
      have h1 : p.toNat < 2 ^ 22 := by unfold U at hp; omega
      exact Nat.lt_of_lt_of_le h1 (Nat.pow_le_pow_right (by decide) (by omega))
    have : p.getLsbD i = false := Nat.testBit_lt_two_pow hn
    rw [this]; rfl
theorem leafR_of (p f va : BitVec 32) (h : Whole f) (a acc lv : Int) (hlv : lv = 0 ∨ lv = 1 ∧ U p % 1024 = 0) (hp : U p < 1048576) (hb : (f.getLsbD 2 && !f.getLsbD 1) = false) :
    leafR (makeB p f) a 0 va acc lv = if good f acc = true then (1, U p * 4096 + U va % 2 ^ (12 + 10 * lv).toNat, 0, 0, 0) else faultR acc true := by
  have hp0 := U_nonneg p
  have hv := U_nonneg va
  have hc : ¬ (lv > 0 ∧ U (makeB p f) / 1024 % 1024 ≠ 0) := by
    rw [page_of p f (by omega)]
    rcases hlv with rfl | ⟨rfl, hz⟩
    · omega
    · exact fun h => h.2 hz
  unfold leafR
  rw [may_of p f h acc hb]
  by_cases c : good f acc = true
  · rw [if_pos ⟨c, hc⟩, if_pos c, need_of p f h, if_pos rfl, page_of p f (by omega)]
    rw [if_pos]
    rcases hlv with rfl | ⟨rfl, hz⟩
    · have e12 : (2 : Int) ^ (12 + 10 * (0 : Int)).toNat = 4096 := by decide
      rw [e12]; omega
    · have e22 : (2 : Int) ^ (12 + 10 * (1 : Int)).toNat = 4194304 := by decide
      rw [e22]; omega
  · rw [if_neg (fun h => c h.1), if_neg c]
theorem good_bad (f : BitVec 32) (acc : Int) (hb : (f.getLsbD 2 && !f.getLsbD 1) = true) : good f acc = false := by
  unfold good; rw [hb]; simp
theorem map3_eq (a : Int) : corrallaw9_map3.f a = some (if a = 1 then 8 else if a = 2 then 2 else if a = 3 then 4 else 0) := by
  unfold corrallaw9_map3.f
  split <;> (try split) <;> (try split) <;> rfl
theorem mask_ask (f : BitVec 32) (a : Int) : (Go.bits .and .u32 (U f) (if a = 1 then 8 else if a = 2 then 2 else if a = 3 then 4 else 0) = 0) = (askB (f.getLsbD 1) (f.getLsbD 2) (f.getLsbD 3) a = false) := by
  unfold askB
  by_cases h1 : a = 1
  · simp only [h1, if_true, bit8]
  by_cases h2 : a = 2
  · subst h2; rw [if_neg (by decide), if_pos rfl, if_neg (by decide), if_pos rfl, bit2]
  by_cases h3 : a = 3
  · subst h3; rw [if_neg (by decide), if_neg (by decide), if_pos rfl, if_neg (by decide), if_neg (by decide), if_pos rfl, bit4]
  simp only [if_neg h1, if_neg h2, if_neg h3, bit0]
theorem low22 (x : Int) (h0 : 0 ≤ x) (h1 : x < 4294967296) : Go.bits .and .u32 x 4194303 = x % 4194304 :=
  bits_mask .u32 32 (by decide) wraps_u32 22 (by decide) x h0 h1
theorem j1_eq (va p f : BitVec 32) (great : Bool) (acc : Int) (hf : Whole f) (hp : U p < 1048576) (hg : great = true → U p % 1024 = 0) (l : List S52) (hl : Words l)
    (hr : ∀ b, (f.getLsbD 2 && !f.getLsbD 1) = b → NextR 2147483649#32 0 va acc 65536 l = if b = true then faultR acc true else leafR (makeB p f) (if great = true then 4096 + 4 * (U va / 4194304) else 8192 + 4 * (U va / 4096 % 1024)) 0 va acc (if great = true then 1 else 0))
    (k : Nat) (hk : 9 ≤ k) :
    corrallaw9_WalkPages.j1 (k + 1) (U va) (U p) great (U f) acc true 0 l = some true := by
  obtain ⟨k, rfl⟩ : ∃ m, k = m + 1 := ⟨k - 1, by omega⟩
  have hv := U_lt va
  have hv0 := U_nonneg va
  have hp0 := U_nonneg p
  have hN := Next_eq 2147483649#32 0 va acc 65536 (by decide) l hl (k + 1) (by omega)
  have hlv : (if great = true then 1 else 0 : Int) = 0 ∨ (if great = true then 1 else 0 : Int) = 1 ∧ U p % 1024 = 0 := by
    cases great with
    | true => exact .inr ⟨rfl, hg rfl⟩
    | false => exact .inl rfl
  have hR : NextR 2147483649#32 0 va acc 65536 l = if good f acc = true then (1, U p * 4096 + U va % 2 ^ (12 + 10 * (if great = true then 1 else 0 : Int)).toNat, 0, 0, 0) else faultR acc true := by
    cases hb : (f.getLsbD 2 && !f.getLsbD 1) with
    | true => rw [hr true hb, if_pos rfl, good_bad f acc hb, if_neg (by decide)]
    | false => rw [hr false hb, if_neg (by decide), leafR_of p f va hf _ acc _ hlv hp hb]
  have hpm : U p * 4096 % 4294967296 = U p * 4096 := by omega
  have j2 : ∀ g, g = good f acc → corrallaw9_WalkPages.j2 (k + 1) (U va) (U p) great acc true g (NextR 2147483649#32 0 va acc 65536 l).1 (NextR 2147483649#32 0 va acc 65536 l).2.1 (NextR 2147483649#32 0 va acc 65536 l).2.2.1 (NextR 2147483649#32 0 va acc 65536 l).2.2.2.1 (NextR 2147483649#32 0 va acc 65536 l).2.2.2.2 = some true := by
    intro g hgd
    rw [hR]
    rw [corrallaw9_WalkPages.j2.eq_2]
    cases g with
    | true =>
      rw [← hgd, if_pos rfl, if_pos rfl]
      cases great with
      | true =>
        have e22 : (2 : Int) ^ (12 + 10 * (if true = true then 1 else 0 : Int)).toNat = 4194304 := by decide
        have hz := hg rfl
        rw [if_pos rfl, if_pos rfl, if_pos rfl, e22, low22 _ hv0 hv, hpm, join32_22 _ _ (by omega) (by omega) (by omega) (by omega) (by omega)]
        simp
      | false =>
        have e12 : (2 : Int) ^ (12 + 10 * (if false = true then 1 else 0 : Int)).toNat = 4096 := by decide
        rw [if_neg (by decide), if_pos rfl, if_pos rfl, e12, low12 _ hv0 hv, hpm, join32_12 _ _ (by omega) (by omega) (by omega) (by omega) (by omega)]
        simp
    | false =>
      rw [← hgd]
      simp [faultR, cause_eq]
  rw [corrallaw9_WalkPages.j1.eq_2]
  rw [show (2147483649 : Int) = U 2147483649#32 from rfl, hN, Option.bind_some, map3_eq, Option.bind_some]
  have hgd : good f acc = (f.getLsbD 4 && (askB (f.getLsbD 1) (f.getLsbD 2) (f.getLsbD 3) acc && !(f.getLsbD 2 && !f.getLsbD 1))) := rfl
  by_cases c4 : f.getLsbD 4 = false
  · rw [if_pos (by rw [bit16]; exact c4)]
    exact j2 _ (by rw [hgd, c4]; rfl)
  rw [if_neg (by rw [bit16]; exact c4)]
  have c4 : f.getLsbD 4 = true := by simpa using c4
  by_cases ca : askB (f.getLsbD 1) (f.getLsbD 2) (f.getLsbD 3) acc = false
  · rw [if_pos (by rw [mask_ask]; exact ca)]
    exact j2 _ (by rw [hgd, ca]; simp)
  rw [if_neg (by rw [mask_ask]; exact ca)]
  have ca : askB (f.getLsbD 1) (f.getLsbD 2) (f.getLsbD 3) acc = true := by simpa using ca
  by_cases cw : f.getLsbD 2 = false
  · rw [if_pos (by rw [bit4]; exact cw)]
    exact j2 _ (by rw [hgd, c4, ca, cw]; rfl)
  rw [if_neg (by rw [bit4]; exact cw)]
  have cw : f.getLsbD 2 = true := by simpa using cw
  apply j2
  rw [hgd, c4, ca, cw]
  have e2 := bit2 f
  cases hr1 : f.getLsbD 1 with
  | true =>
    have : ¬ Go.bits .and .u32 (U f) 2 = 0 := by rw [e2, hr1]; decide
    rw [beq_eq_false_iff_ne.2 this]; rfl
  | false =>
    have : Go.bits .and .u32 (U f) 2 = 0 := by rw [e2]; exact hr1
    rw [this]; rfl
theorem j0_eq (va p f : BitVec 32) (great : Bool) (acc : Int) (hv : f.getLsbD 0 = true) (ha : f.getLsbD 6 = true) (hd : f.getLsbD 7 = true) (hp : U p < 1048576) (hg : great = true → U p % 1024 = 0) (k : Nat) (hk : 10 ≤ k) :
    corrallaw9_WalkPages.j0 (k + 1) (U va) (U p) great (U f) acc true 0 = some true := by
  obtain ⟨k, rfl⟩ : ∃ m, k = m + 1 := ⟨k - 1, by omega⟩
  have hva := U_lt va
  have hva0 := U_nonneg va
  have hm : pte_Make.f (k + 1) (U p) [U f] = some (U (makeB p f)) := by
    have h := make_eq p [f] (by simp) (k + 1) (by simp; omega)
    simpa [orAll] using h
  rw [corrallaw9_WalkPages.j0.eq_2]
  rw [hm, Option.bind_some]
  by_cases c : Go.bits .and .u32 (U f) 10 = 0
  · rw [if_pos c]
  rw [if_neg c]
  have hx : (f.getLsbD 1 || f.getLsbD 3) = true := by
    rw [bit10] at c
    cases h : f.getLsbD 1 <;> cases h3 : f.getLsbD 3 <;> simp_all
  have hf : Whole f := ⟨hv, ha, hd, hx⟩
  cases great with
  | true =>
    rw [if_pos rfl, list_one]
    refine j1_eq va p f true acc hf hp hg _ (words_one va _) (fun b hb => ?_) k (by omega)
    cases b with
    | true => rw [next_first_bad va _ acc (by rw [bad_of p f hf]; exact hb)]; rfl
    | false => rw [next_first va _ acc (by rw [bad_of p f hf]; exact hb) (leaf_of p f hf)]; rfl
  | false =>
    rw [if_neg (by decide), make2 (k + 1) (by omega), Option.bind_some, low10 _ (by omega) (by omega), list_two]
    refine j1_eq va p f false acc hf hp hg _ (words_two va _) (fun b hb => ?_) k (by omega)
    cases b with
    | true => rw [next_second_bad va _ acc (by rw [bad_of p f hf]; exact hb)]; rfl
    | false => rw [next_second va _ acc (by rw [bad_of p f hf]; exact hb) (leaf_of p f hf)]; rfl
theorem main (va p x : BitVec 32) (great : Bool) (acc : Int) (user : Bool) (k : Nat) (hk : 11 ≤ k) (h : corrallaw9_first.f k = some true) : corrallaw9_WalkPages.f k (U va) (U p) great (U x) acc user = some true := by
  obtain ⟨k, rfl⟩ : ∃ m, k = m + 1 := ⟨k - 1, by omega⟩
  have e1 : BitVec.ofInt 32 1048575 = 1048575#32 := rfl
  have e2 : BitVec.ofInt 32 1023 = 1023#32 := rfl
  have e3 : BitVec.ofInt 32 62 = 62#32 := rfl
  have e4 : BitVec.ofInt 32 1 = 1#32 := rfl
  have e5 : BitVec.ofInt 32 64 = 64#32 := rfl
  have e6 : BitVec.ofInt 32 128 = 128#32 := rfl
  unfold corrallaw9_WalkPages.f
  rw [h, Option.bind_some, if_pos rfl]
  cases user with
  | false =>
    rw [if_neg (by decide)]
    have hN := Next_eq 2147483649#32 3 va acc 65536 (by decide) [] (fun e he => by cases he) (k + 1) (by omega)
    rw [show (2147483649 : Int) = U 2147483649#32 from rfl, hN, Option.bind_some]
    have : NextR 2147483649#32 3 va acc 65536 [] = (1, U va, 0, 0, 0) := by
      unfold NextR nextR entries
      rw [if_pos rfl, if_pos rfl, if_neg (by simp)]
    rw [this]; simp
  | true =>
    rw [if_pos rfl]
    simp only [and_U, andNot_U, or_U, ofInt_U, e1, e2, e3, e4, e5, e6]
    have hf0 : (x &&& 62#32 ||| 1#32 ||| 64#32 ||| 128#32).getLsbD 0 = true := by simp [BitVec.getLsbD_or]
    have hf6 : (x &&& 62#32 ||| 1#32 ||| 64#32 ||| 128#32).getLsbD 6 = true := by simp [BitVec.getLsbD_or]
    have hf7 : (x &&& 62#32 ||| 1#32 ||| 64#32 ||| 128#32).getLsbD 7 = true := by simp [BitVec.getLsbD_or]
    have hp : U (p &&& 1048575#32) = U p % 1048576 := by
      have hu := U_lt p
      have h0 := U_nonneg p
      have := bits_mask .u32 32 (by decide) wraps_u32 20 (by decide) (U p) h0 hu
      rw [← e1, ← ofInt_U p, ← and_U, ofInt_U]; exact this
    have hb : U (p &&& 1048575#32) < 1048576 := by rw [hp]; have := U_nonneg p; omega
    cases great with
    | false => rw [if_neg (by decide)]; exact j0_eq va _ _ false acc hf0 hf6 hf7 hb (fun h => by cases h) k (by omega)
    | true =>
      rw [if_pos rfl]
      have hz : U (p &&& 1048575#32 &&& ~~~ 1023#32) % 1024 = 0 := by
        have hu := U_lt (p &&& 1048575#32 &&& ~~~ 1023#32)
        have h0 := U_nonneg (p &&& 1048575#32 &&& ~~~ 1023#32)
        have := bits_mask .u32 32 (by decide) wraps_u32 10 (by decide) _ h0 hu
        have hz2 : p &&& 1048575#32 &&& ~~~ 1023#32 &&& 1023#32 = 0#32 := by
          apply BitVec.eq_of_getLsbD_eq; intro i hi
          rw [BitVec.getLsbD_and, BitVec.getLsbD_and, BitVec.getLsbD_not]
          cases (1023#32).getLsbD i <;> simp
        rw [show ((2 : Int) ^ 10 - 1) = 1023 by decide, and_U, ofInt_U, e2, hz2] at this
        have z : U 0#32 = 0 := rfl
        omega
      have hb2 : U (p &&& 1048575#32 &&& ~~~ 1023#32) < 1048576 := by
        have hle : (p &&& 1048575#32 &&& ~~~ 1023#32).toNat ≤ (p &&& 1048575#32).toNat := by rw [BitVec.toNat_and (p &&& 1048575#32)]; exact Nat.and_le_left
        unfold U at *; omega
      exact j0_eq va _ _ true acc hf0 hf6 hf7 hb2 (fun _ => hz) k (by omega)
end WalkPagesP
theorem WalkPages : corrallaw9_WalkPages.Pure := by
  intro a0 a1 a2 a3 a4 a5 h0 h1 h3 _
  obtain ⟨va, rfl⟩ := wf_u32 h0
  obtain ⟨p, rfl⟩ := wf_u32 h1
  obtain ⟨x, rfl⟩ := wf_u32 h3
  exact ⟨100, WalkPagesP.main va p x a2 a4 a5 100 (by decide) WalkPagesP.first_true⟩

end Go.Proofs.Ytecmjcfhbedelaa.Pure
