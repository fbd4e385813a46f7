/- Of all entries of ten bits: bad, leading on, or a leaf; a leaf may be used for just what its bits say: for every page, access and mode. -/
import Derived.Test.YthpaieglgjjbiaaQPteKindsx2
import Derived.Test.YthpaieglgjjbiaaBv
set_option linter.unusedSimpArgs false
namespace Go.Proofs.Ythpaieglgjjbiaa.Pure
open Go.RowKit Go.Proofs.Ythpaieglgjjbiaa.QPteKinds Go.Proofs.YthpaieglgjjbiaaW.PrintWords Go.Proofs.YthpaieglgjjbiaaW.PrintLast Go.Proofs.YthpaieglgjjbiaaW.PrintMore Go.Proofs.Ythpaieglgjjbiaa.Bv
namespace PteKindsP
theorem bit_eq (w : BitVec 32) (i : Nat) (hi : i < 32) (m : Int) (hm : BitVec.ofInt 32 m = BitVec.twoPow 32 i) : (Go.bits .and .u32 (U w) m = 0) = (w.getLsbD i = false) := by
  rw [and_U, ofInt_U, hm, and_bit w i hi]
theorem bit1 (w : BitVec 32) : (Go.bits .and .u32 (U w) 1 = 0) = (w.getLsbD 0 = false) := bit_eq w 0 (by decide) 1 (by decide)
theorem bit2 (w : BitVec 32) : (Go.bits .and .u32 (U w) 2 = 0) = (w.getLsbD 1 = false) := bit_eq w 1 (by decide) 2 (by decide)
theorem bit4 (w : BitVec 32) : (Go.bits .and .u32 (U w) 4 = 0) = (w.getLsbD 2 = false) := bit_eq w 2 (by decide) 4 (by decide)
theorem bit8 (w : BitVec 32) : (Go.bits .and .u32 (U w) 8 = 0) = (w.getLsbD 3 = false) := bit_eq w 3 (by decide) 8 (by decide)
theorem bit16 (w : BitVec 32) : (Go.bits .and .u32 (U w) 16 = 0) = (w.getLsbD 4 = false) := bit_eq w 4 (by decide) 16 (by decide)
theorem bit0 (w : BitVec 32) : (Go.bits .and .u32 (U w) 0 = 0) = True := by
  rw [and_U, ofInt_U]; simp; rfl
theorem bit16b (w : BitVec 32) : (Go.bits .and .u32 (U w) 16 != 0) = w.getLsbD 4 := by
  have := bit16 w
  cases h : w.getLsbD 4 <;> simp_all [bne]
theorem bit208 (w : BitVec 32) : (Go.bits .and .u32 (U w) 208 = 0) = (w.getLsbD 4 = false ∧ w.getLsbD 6 = false ∧ w.getLsbD 7 = false) := by
  rw [and_U, ofInt_U, ← and_bit w 4 (by decide), ← and_bit w 6 (by decide), ← and_bit w 7 (by decide), ← or_zero, ← or_zero, ← BitVec.and_or_distrib_left, ← BitVec.and_or_distrib_left]
  rfl
theorem bit10 (w : BitVec 32) : (Go.bits .and .u32 (U w) 10 = 0) = (w.getLsbD 1 = false ∧ w.getLsbD 3 = false) := by
  rw [and_U, ofInt_U, ← and_bit w 1 (by decide), ← and_bit w 3 (by decide), ← or_zero, ← BitVec.and_or_distrib_left]
  rfl
theorem leaf_eq (w : BitVec 32) : pte_Leaf.f (U w) = some (w.getLsbD 1 || w.getLsbD 3) := by
  unfold pte_Leaf.f
  have := bit10 w
  cases h : w.getLsbD 1 <;> cases h3 : w.getLsbD 3 <;> simp_all [bne]
theorem bit208b (w : BitVec 32) : (Go.bits .and .u32 (U w) 208 != 0) = (w.getLsbD 4 || w.getLsbD 6 || w.getLsbD 7) := by
  have := bit208 w
  cases h : w.getLsbD 4 <;> cases h6 : w.getLsbD 6 <;> cases h7 : w.getLsbD 7 <;> simp_all [bne]
def badB (v r wr x u a d : Bool) : Bool := !v || (wr && !r) || (!(r || x) && (u || a || d))
def badW (w : BitVec 32) : Bool := badB (w.getLsbD 0) (w.getLsbD 1) (w.getLsbD 2) (w.getLsbD 3) (w.getLsbD 4) (w.getLsbD 6) (w.getLsbD 7)
theorem bad_eq (w : BitVec 32) : pte_Bad.f (U w) = some (badW w) := by
  unfold pte_Bad.f badW badB
  simp only [leaf_eq, bit1, bit4, bit2, bit208b, Option.bind_some]
  cases w.getLsbD 0 <;> cases w.getLsbD 1 <;> cases w.getLsbD 2 <;> cases w.getLsbD 3 <;> simp
/-- The bit that an access asks for. -/
def askB (r wr x : Bool) (a : Int) : Bool := if a = 1 then x else if a = 2 then r else if a = 3 then wr else false
def mayB (v r wr x u a d : Bool) (acc mode : Int) : Bool := !(badB v r wr x u a d) && (r || x) && askB r wr x acc && (if mode = 0 then u else if mode = 3 then !u else false)
def mayW (w : BitVec 32) (acc mode : Int) : Bool := mayB (w.getLsbD 0) (w.getLsbD 1) (w.getLsbD 2) (w.getLsbD 3) (w.getLsbD 4) (w.getLsbD 6) (w.getLsbD 7) acc mode
theorem may_eq (w : BitVec 32) (acc mode : Int) : pte_May.f (U w) acc mode = some (mayW w acc mode) := by
  have e8 : ((8 : Int) = 0) = False := by simp
  have e2 : ((2 : Int) = 0) = False := by simp
  have e4 : ((4 : Int) = 0) = False := by simp
  have e0 : ((0 : Int) = 0) = True := by simp
  unfold pte_May.f mayW mayB askB
  simp only [leaf_eq, bad_eq, badW, bit2, bit4, bit8, bit16, bit16b, bit0, Option.bind_some, e8, e2, e4, e0, if_true, if_false]
  generalize badB _ _ _ _ _ _ _ = bad
  by_cases h1 : acc = 1
  · subst h1; cases bad <;> cases w.getLsbD 1 <;> cases w.getLsbD 3 <;> cases w.getLsbD 4 <;> by_cases hm : mode = 0 <;> by_cases hm3 : mode = 3 <;> simp_all
  by_cases h2 : acc = 2
  · subst h2; cases bad <;> cases w.getLsbD 1 <;> cases w.getLsbD 3 <;> cases w.getLsbD 4 <;> by_cases hm : mode = 0 <;> by_cases hm3 : mode = 3 <;> simp_all
  by_cases h3 : acc = 3
  · subst h3; cases bad <;> cases w.getLsbD 1 <;> cases w.getLsbD 2 <;> cases w.getLsbD 3 <;> cases w.getLsbD 4 <;> by_cases hm : mode = 0 <;> by_cases hm3 : mode = 3 <;> simp_all
  simp [h1, h2, h3]

theorem mask_eq (n : Int) : word_mask.f n = some (U (maskB n)) := by
  unfold word_mask.f maskB
  by_cases h : n ≥ 32
  · rw [if_pos h, if_pos h]; rfl
  · rw [if_neg h, if_neg h, shl_U, mod_U]
    have e1 : BitVec.ofInt 32 1 = 1#32 := rfl
    have e2 : (mx n 0).toNat = n.toNat := by unfold mx; split <;> omega
    congr 2
    rw [e2, e1, Bv.ofInt_sub, ofInt_U, e1]
def makeB (p f : BitVec 32) : BitVec 32 := (p &&& maskB 22) <<< 10 ||| (f &&& maskB 10)
theorem pack2 (p f : BitVec 32) (k : Nat) : word_Pack.f (k + 3) [(⟨10, 22, U p⟩ : S37), (⟨0, 10, U f⟩ : S37)] = some (U (makeB p f)) := by
  have r0 : rd_T37 [(⟨10, 22, U p⟩ : S37), (⟨0, 10, U f⟩ : S37)] 0 = ⟨10, 22, U p⟩ := rfl
  have r1 : rd_T37 [(⟨10, 22, U p⟩ : S37), (⟨0, 10, U f⟩ : S37)] 1 = ⟨0, 10, U f⟩ := rfl
  have w0 : wrap64 (0 + 1) = 1 := by unfold wrap64; omega
  have w1 : wrap64 (1 + 1) = 2 := by unfold wrap64; omega
  have e0 : BitVec.ofInt 32 0 = 0#32 := rfl
  have t10 : (10 : Int).toNat = 10 := rfl
  have t0 : (0 : Int).toNat = 0 := rfl
  unfold word_Pack.f
  simp only [word_Pack.l0, List.length_cons, List.length_nil, r0, mask_eq, Option.bind_some, w0]
  simp only [r1, w1, mask_eq, Option.bind_some, and_U, or_U, shl_U, ofInt_U, e0, t10, t0]
  simp [makeB]
theorem makeB_low (p f : BitVec 32) (i : Nat) (hi : i < 10) : (makeB p f).getLsbD i = f.getLsbD i := by
  unfold makeB
  rw [BitVec.getLsbD_or, BitVec.getLsbD_shiftLeft, BitVec.getLsbD_and, BitVec.getLsbD_and, maskB_bit, maskB_bit]
  have a1 : i < 32 := by omega
  have a2 : (i : Int) < 10 := by omega
  simp [hi, a1, a2]
theorem makeB_high (p f : BitVec 32) (i : Nat) (hi : 10 ≤ i) : (makeB p f).getLsbD i = (decide (i < 32) && p.getLsbD (i - 10)) := by
  unfold makeB
  rw [BitVec.getLsbD_or, BitVec.getLsbD_shiftLeft, BitVec.getLsbD_and, BitVec.getLsbD_and, maskB_bit, maskB_bit]
  have a1 : ¬ i < 10 := by omega
  have a2 : ¬ (i : Int) < 10 := by omega
  by_cases c : i < 32
  · have a3 : ((i - 10 : Nat) : Int) < 22 := by omega
    have a4 : i - 10 < 32 := by omega
    simp [c, a1, a2, a3, a4]
  · simp [c, a2]
/-- The flags laid over one another. -/
def orAll (a : BitVec 32) (l : List (BitVec 32)) : BitVec 32 := l.foldl (· ||| ·) a
theorem rd_map (l : List (BitVec 32)) (i : Nat) (h : i < l.length) : rd (l.map U) (i : Int) = U l[i] := by
  unfold rd
  simp [h]
theorem wrap_succ (i : Nat) (h : i < 4611686018427387904) : wrap64 ((i : Int) + 1) = ((i + 1 : Nat) : Int) := by unfold wrap64; omega
theorem make_loop (p : BitVec 32) (l : List (BitVec 32)) (hl : l.length ≤ 4611686018427387904) (d : Nat) : ∀ (k i : Nat) (a : BitVec 32), i + d = l.length → d + 4 ≤ k →
    pte_Make.l0 k (U p) (U a) (l.map U) (l.length : Int) (i : Int) = some (U (makeB p (orAll a (l.drop i)))) := by
  induction d with
  | zero =>
    intro k i a hi hk
    obtain ⟨k, rfl⟩ : ∃ m, k = m + 4 := ⟨k - 4, by omega⟩
    simp only [pte_Make.l0]
    rw [if_neg (by omega), pack2, List.drop_of_length_le (by omega)]
    rfl
  | succ d ih =>
    intro k i a hi hk
    obtain ⟨k, rfl⟩ : ∃ m, k = m + 1 := ⟨k - 1, by omega⟩
    have hlt : i < l.length := by omega
    simp only [pte_Make.l0]
    rw [if_pos (by omega), if_pos (by omega), if_pos (by rw [List.length_map]; omega), rd_map l i hlt, or_U, ofInt_U, ofInt_U, wrap_succ i (by omega), ih k (i + 1) _ (by omega) (by omega)]
    rw [List.drop_eq_getElem_cons hlt]
    rfl
theorem make_eq (p : BitVec 32) (l : List (BitVec 32)) (hl : l.length ≤ 4611686018427387904) (k : Nat) (hk : l.length + 4 ≤ k) :
    pte_Make.f k (U p) (l.map U) = some (U (makeB p (orAll 0#32 l))) := by
  have h0 : U 0#32 = 0 := rfl
  have := make_loop p l hl l.length k 0 0#32 (by omega) (by omega)
  rw [h0] at this
  unfold pte_Make.f
  rw [List.length_map]
  simpa using this

theorem first_true : corrallaw8_first.f 2000 = some true := by decide +kernel
theorem make1 (p f : BitVec 32) (k : Nat) (hk : 5 ≤ k) : pte_Make.f k (U p) [U f] = some (U (makeB p f)) := by
  have := make_eq p [f] (by simp) k (by simpa using hk)
  simpa [orAll] using this
theorem bad_make (p f : BitVec 32) : badW (makeB p f) = badW f := by
  unfold badW
  simp only [makeB_low p f _ (by decide : 0 < 10), makeB_low p f _ (by decide : 1 < 10), makeB_low p f _ (by decide : 2 < 10), makeB_low p f _ (by decide : 3 < 10), makeB_low p f _ (by decide : 4 < 10), makeB_low p f _ (by decide : 6 < 10), makeB_low p f _ (by decide : 7 < 10)]
theorem may_make (p f : BitVec 32) (a m : Int) : mayW (makeB p f) a m = mayW f a m := by
  unfold mayW
  simp only [makeB_low p f _ (by decide : 0 < 10), makeB_low p f _ (by decide : 1 < 10), makeB_low p f _ (by decide : 2 < 10), makeB_low p f _ (by decide : 3 < 10), makeB_low p f _ (by decide : 4 < 10), makeB_low p f _ (by decide : 6 < 10), makeB_low p f _ (by decide : 7 < 10)]
theorem leaf_make (p f : BitVec 32) : pte_Leaf.f (U (makeB p f)) = some (f.getLsbD 1 || f.getLsbD 3) := by
  rw [leaf_eq]
  simp only [makeB_low p f _ (by decide : 1 < 10), makeB_low p f _ (by decide : 3 < 10)]
/-- What an access asks for, as the law has it. -/
def Asks (a m : Int) (x2 : Bool) (x9 : Int) : Prop := (a = 1 ∧ x9 = 8 ∨ a = 2 ∧ x9 = 2 ∨ a = 3 ∧ x9 = 4) ∧ (x2 = true ∧ m = 0 ∨ x2 = false ∧ m = 3)
theorem bit10b (w : BitVec 32) : (Go.bits .and .u32 (U w) 10 != 0) = (w.getLsbD 1 || w.getLsbD 3) := by
  have := bit10 w
  cases h : w.getLsbD 1 <;> cases h3 : w.getLsbD 3 <;> simp_all [bne]
theorem j3_eq (p f : BitVec 32) (a m : Int) (x2 : Bool) (x9 : Int) (k : Nat) (n : Int) (hU : n = U f) (bad may : Bool)
    (hb : bad = badW f) (hm : may = mayW f a m) :
    corrallaw8_PteKinds.j3 (k + 1) (U p) a x2 true m x9 n (U (makeB p f)) (Go.bits .and .u32 n 10) bad may =
    corrallaw8_PteKinds.l0 k (U p) a x2 true m x9 ((n + 1) % 4294967296) := by
  subst hU hb hm
  simp only [corrallaw8_PteKinds.j3, bad_eq, bad_make, leaf_make, may_eq, may_make, bit10b, Option.bind_some, bne_self_eq_false]
  rw [if_neg (by decide), if_neg (by decide), if_neg (by decide)]
theorem j2_eq (p f : BitVec 32) (a m : Int) (x2 : Bool) (x9 : Int) (hA : Asks a m x2 x9) (k : Nat) (n : Int) (hU : n = U f) (bad : Bool)
    (hb : bad = badW f) :
    corrallaw8_PteKinds.j2 (k + 2) (U p) a x2 true m x9 n (U (makeB p f)) (Go.bits .and .u32 n 10) bad =
    corrallaw8_PteKinds.l0 k (U p) a x2 true m x9 ((n + 1) % 4294967296) := by
  have hj : ∀ may, may = mayW f a m → corrallaw8_PteKinds.j3 (k + 1) (U p) a x2 true m x9 n (U (makeB p f)) (Go.bits .and .u32 n 10) bad may =
    corrallaw8_PteKinds.l0 k (U p) a x2 true m x9 ((n + 1) % 4294967296) := fun may h => j3_eq p f a m x2 x9 k n hU bad may hb h
  simp only [corrallaw8_PteKinds.j2]
  subst hU
  by_cases c1 : bad = true
  · rw [if_pos c1]
    apply hj
    unfold mayW mayB badW at *
    rw [← hb, c1]; simp
  rw [if_neg c1]
  have c1 : badW f = false := by rw [← hb]; simpa using c1
  by_cases c2 : Go.bits .and .u32 (U f) 10 = 0
  · rw [if_pos c2]
    apply hj
    rw [bit10] at c2
    unfold mayW mayB; rw [c2.1, c2.2]; simp
  rw [if_neg c2]
  have c2 : (f.getLsbD 1 || f.getLsbD 3) = true := by
    rw [bit10] at c2
    cases h : f.getLsbD 1 <;> cases h3 : f.getLsbD 3 <;> simp_all
  have hmw : mayW f a m = (askB (f.getLsbD 1) (f.getLsbD 2) (f.getLsbD 3) a && (if m = 0 then f.getLsbD 4 else if m = 3 then !f.getLsbD 4 else false)) := by
    unfold mayW mayB; unfold badW at c1; rw [c1, c2]; simp
  obtain ⟨hA1, hA2⟩ := hA
  have hbit : (Go.bits .and .u32 (U f) x9 = 0) = (askB (f.getLsbD 1) (f.getLsbD 2) (f.getLsbD 3) a = false) := by
    rcases hA1 with ⟨rfl, rfl⟩ | ⟨rfl, rfl⟩ | ⟨rfl, rfl⟩
    · rw [bit8]; simp [askB]
    · rw [bit2]; simp [askB]
    · rw [bit4]; simp [askB]
  by_cases c3 : Go.bits .and .u32 (U f) x9 = 0
  · rw [if_pos c3]
    apply hj
    rw [hbit] at c3
    rw [hmw, c3]; simp
  rw [if_neg c3]
  apply hj
  rw [hbit] at c3
  have c3 : askB (f.getLsbD 1) (f.getLsbD 2) (f.getLsbD 3) a = true := by simpa using c3
  rw [hmw, c3, bit16b]
  rcases hA2 with ⟨rfl, rfl⟩ | ⟨rfl, rfl⟩ <;> simp
theorem round (p f : BitVec 32) (a m : Int) (x2 : Bool) (x9 : Int) (hA : Asks a m x2 x9) (k : Nat) (n : Int) (hU : n = U f) (hn : n < 256) (hk : 5 ≤ k) :
    corrallaw8_PteKinds.l0 (k + 3) (U p) a x2 true m x9 n = corrallaw8_PteKinds.l0 k (U p) a x2 true m x9 ((n + 1) % 4294967296) := by
  have hj : ∀ bad, bad = badW f → corrallaw8_PteKinds.j2 (k + 2) (U p) a x2 true m x9 n (U (makeB p f)) (Go.bits .and .u32 n 10) bad =
    corrallaw8_PteKinds.l0 k (U p) a x2 true m x9 ((n + 1) % 4294967296) := fun bad h => j2_eq p f a m x2 x9 hA k n hU bad h
  simp only [corrallaw8_PteKinds.l0]
  subst hU
  rw [if_pos hn, make1 p f (k + 2) (by omega)]
  simp only [Option.bind_some]
  simp only [bit1, bit4, bit2, bit208b]
  have hu : badW f = badB (f.getLsbD 0) (f.getLsbD 1) (f.getLsbD 2) (f.getLsbD 3) (f.getLsbD 4) (f.getLsbD 6) (f.getLsbD 7) := rfl
  unfold badB at hu
  by_cases c0 : f.getLsbD 0 = false
  · rw [if_pos c0]; apply hj; rw [hu, c0]; simp
  rw [if_neg c0]
  have c0 : f.getLsbD 0 = true := by simpa using c0
  by_cases cw : f.getLsbD 2 = false
  · rw [if_pos cw]
    by_cases c10 : Go.bits .and .u32 (U f) 10 = 0
    · rw [if_pos c10]; apply hj; rw [bit10] at c10; rw [hu, c0, cw, c10.1, c10.2]; simp
    · rw [if_neg c10]; apply hj; rw [bit10] at c10; rw [hu, c0, cw]
      cases h : f.getLsbD 1 <;> cases h3 : f.getLsbD 3 <;> simp_all
  rw [if_neg cw]
  have cw : f.getLsbD 2 = true := by simpa using cw
  by_cases cr : f.getLsbD 1 = false
  · rw [if_pos cr]; apply hj; rw [hu, c0, cw, cr]; simp
  rw [if_neg cr]
  have cr : f.getLsbD 1 = true := by simpa using cr
  have c10 : ¬ Go.bits .and .u32 (U f) 10 = 0 := by rw [bit10, cr]; simp
  rw [if_neg c10]; apply hj; rw [hu, c0, cw, cr]; simp
theorem rounds (p : BitVec 32) (a m : Int) (x2 : Bool) (x9 : Int) (hA : Asks a m x2 x9) (d : Nat) : ∀ (k : Nat) (n : Int), 0 ≤ n → n + d = 256 → 3 * d + 10 ≤ k →
    corrallaw8_PteKinds.l0 k (U p) a x2 true m x9 n = some true := by
  induction d with
  | zero =>
    intro k n h0 h1 hk
    obtain ⟨k, rfl⟩ : ∃ m, k = m + 1 := ⟨k - 1, by omega⟩
    simp only [corrallaw8_PteKinds.l0]
    rw [if_neg (by omega)]
  | succ d ih =>
    intro k n h0 h1 hk
    obtain ⟨k, rfl⟩ : ∃ m, k = m + 3 := ⟨k - 3, by omega⟩
    obtain ⟨f, hf⟩ := U_of h0 (by omega : n < 4294967296)
    rw [round p f a m x2 x9 hA k n hf (by omega) (by omega), show (n + 1) % 4294967296 = n + 1 by omega]
    exact ih k (n + 1) (by omega) (by omega) (by omega)
theorem j0_eq (p : BitVec 32) (a m : Int) (x2 : Bool) (h1 : 1 ≤ a) (h3 : a ≤ 3) (hm : x2 = true ∧ m = 0 ∨ x2 = false ∧ m = 3) : corrallaw8_PteKinds.j0 2000 (U p) a x2 true m = some true := by
  have e : wrap64 (a - 1) = a - 1 := by unfold wrap64; omega
  show ((some ([8, 2, 4] : List Int)).bind fun y130 => if 0 ≤ wrap64 (a - 1) then if wrap64 (a - 1) < (y130.length : Int) then corrallaw8_PteKinds.l0 1999 (U p) a x2 true m (rd y130 (wrap64 (a - 1))) 0 else none else none) = some true
  simp only [Option.bind_some, e]
  rw [if_pos (by omega), if_pos (by simp; omega)]
  apply rounds p a m x2 _ _ 256 1999 0 (by omega) (by omega) (by omega)
  refine ⟨?_, hm⟩
  obtain rfl | rfl | rfl : a = 1 ∨ a = 2 ∨ a = 3 := by omega
  · exact .inl ⟨rfl, rfl⟩
  · exact .inr (.inl ⟨rfl, rfl⟩)
  · exact .inr (.inr ⟨rfl, rfl⟩)
theorem main (p : BitVec 32) (a : Int) (u : Bool) : corrallaw8_PteKinds.f 2000 (U p) a u = some true := by
  have ht : -3 < Int.tmod a 3 ∧ Int.tmod a 3 < 3 := ⟨Int.lt_tmod_of_pos a (by decide), Int.tmod_lt_of_pos a (by decide)⟩
  have e1 : wrap64 (Int.tmod a 3 + 3) = Int.tmod a 3 + 3 := by unfold wrap64; omega
  have ht2 : 0 ≤ Int.tmod (Int.tmod a 3 + 3) 3 ∧ Int.tmod (Int.tmod a 3 + 3) 3 < 3 := ⟨Int.tmod_nonneg 3 (by omega), Int.tmod_lt_of_pos _ (by decide)⟩
  have e2 : wrap64 (Int.tmod (Int.tmod a 3 + 3) 3 + 1) = Int.tmod (Int.tmod a 3 + 3) 3 + 1 := by unfold wrap64; omega
  unfold corrallaw8_PteKinds.f
  rw [first_true]
  simp only [Option.bind_some, if_true, e1, e2]
  cases u with
  | true => rw [if_pos rfl]; exact j0_eq p _ 0 true (by omega) (by omega) (.inl ⟨rfl, rfl⟩)
  | false => rw [if_neg (by decide)]; exact j0_eq p _ 3 false (by omega) (by omega) (.inr ⟨rfl, rfl⟩)
end PteKindsP
theorem PteKinds : corrallaw8_PteKinds.Pure := by
  intro a0 a1 a2 h0 _
  obtain ⟨w, rfl⟩ := wf_u32 h0
  exact ⟨2000, PteKindsP.main w a1 a2⟩

end Go.Proofs.Ythpaieglgjjbiaa.Pure
