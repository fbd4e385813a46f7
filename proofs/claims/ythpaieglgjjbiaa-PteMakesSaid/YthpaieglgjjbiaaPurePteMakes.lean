/- An entry that is made has its page and its flags, as many bits of each; what it needs it has then, and needs no more: for every page, every list of at most 20 flags (of more nothing is asked) and every access. -/
import Derived.Test.YthpaieglgjjbiaaQPteMakesx2
import Derived.Test.YthpaieglgjjbiaaBv
set_option linter.unusedSimpArgs false
namespace Go.Proofs.Ythpaieglgjjbiaa.Pure
open Go.RowKit Go.Proofs.Ythpaieglgjjbiaa.QPteMakes Go.Proofs.YthpaieglgjjbiaaW.PrintWords Go.Proofs.YthpaieglgjjbiaaW.PrintLast Go.Proofs.YthpaieglgjjbiaaW.PrintMore Go.Proofs.Ythpaieglgjjbiaa.Bv
namespace PteMakesP
theorem mask_eq (n : Int) : word_mask.f n = some (U (maskB n)) := by
  unfold word_mask.f maskB
  by_cases h : n ≥ 32
  · rw [if_pos h, if_pos h]; rfl
  · rw [if_neg h, if_neg h, shl_U, mod_U]
    have e1 : BitVec.ofInt 32 1 = 1#32 := rfl
    have e2 : (mx n 0).toNat = n.toNat := by unfold mx; split <;> omega
    congr 2
    rw [e2, e1, Bv.ofInt_sub, ofInt_U, e1]
def makeB (p f : BitVec 32) : BitVec 32 := (p &&& maskB 22) <<< 10 ||| (f &&& maskB 10)
theorem pack2 (p f : BitVec 32) (k : Nat) : word_Pack.f (k + 3) [(⟨10, 22, U p⟩ : S37), (⟨0, 10, U f⟩ : S37)] = some (U (makeB p f)) := by
  have r0 : rd_T37 [(⟨10, 22, U p⟩ : S37), (⟨0, 10, U f⟩ : S37)] 0 = ⟨10, 22, U p⟩ := rfl
  have r1 : rd_T37 [(⟨10, 22, U p⟩ : S37), (⟨0, 10, U f⟩ : S37)] 1 = ⟨0, 10, U f⟩ := rfl
  have w0 : wrap64 (0 + 1) = 1 := by unfold wrap64; omega
  have w1 : wrap64 (1 + 1) = 2 := by unfold wrap64; omega
  have e0 : BitVec.ofInt 32 0 = 0#32 := rfl
  have t10 : (10 : Int).toNat = 10 := rfl
  have t0 : (0 : Int).toNat = 0 := rfl
  unfold word_Pack.f
  simp only [word_Pack.l0, List.length_cons, List.length_nil, r0, mask_eq, Option.bind_some, w0]
  simp only [r1, w1, mask_eq, Option.bind_some, and_U, or_U, shl_U, ofInt_U, e0, t10, t0]
  simp [makeB]
theorem makeB_low (p f : BitVec 32) (i : Nat) (hi : i < 10) : (makeB p f).getLsbD i = f.getLsbD i := by
  unfold makeB
  rw [BitVec.getLsbD_or, BitVec.getLsbD_shiftLeft, BitVec.getLsbD_and, BitVec.getLsbD_and, maskB_bit, maskB_bit]
  have a1 : i < 32 := by omega
  have a2 : (i : Int) < 10 := by omega
  simp [hi, a1, a2]
theorem makeB_high (p f : BitVec 32) (i : Nat) (hi : 10 ≤ i) : (makeB p f).getLsbD i = (decide (i < 32) && p.getLsbD (i - 10)) := by
  unfold makeB
  rw [BitVec.getLsbD_or, BitVec.getLsbD_shiftLeft, BitVec.getLsbD_and, BitVec.getLsbD_and, maskB_bit, maskB_bit]
  have a1 : ¬ i < 10 := by omega
  have a2 : ¬ (i : Int) < 10 := by omega
  by_cases c : i < 32
  · have a3 : ((i - 10 : Nat) : Int) < 22 := by omega
    have a4 : i - 10 < 32 := by omega
    simp [c, a1, a2, a3, a4]
  · simp [c, a2]
/-- The flags laid over one another. -/
def orAll (a : BitVec 32) (l : List (BitVec 32)) : BitVec 32 := l.foldl (· ||| ·) a
theorem rd_map (l : List (BitVec 32)) (i : Nat) (h : i < l.length) : rd (l.map U) (i : Int) = U l[i] := by
  unfold rd
  simp [h]
theorem wrap_succ (i : Nat) (h : i < 4611686018427387904) : wrap64 ((i : Int) + 1) = ((i + 1 : Nat) : Int) := by unfold wrap64; omega
theorem make_loop (p : BitVec 32) (l : List (BitVec 32)) (hl : l.length ≤ 4611686018427387904) (d : Nat) : ∀ (k i : Nat) (a : BitVec 32), i + d = l.length → d + 4 ≤ k →
    pte_Make.l0 k (U p) (U a) (l.map U) (l.length : Int) (i : Int) = some (U (makeB p (orAll a (l.drop i)))) := by
  induction d with
  | zero =>
    intro k i a hi hk
    obtain ⟨k, rfl⟩ : ∃ m, k = m + 4 := ⟨k - 4, by omega⟩
    simp only [pte_Make.l0]
    rw [if_neg (by omega), pack2, List.drop_of_length_le (by omega)]
    rfl
  | succ d ih =>
    intro k i a hi hk
    obtain ⟨k, rfl⟩ : ∃ m, k = m + 1 := ⟨k - 1, by omega⟩
    have hlt : i < l.length := by omega
    simp only [pte_Make.l0]
    rw [if_pos (by omega), if_pos (by omega), if_pos (by rw [List.length_map]; omega), rd_map l i hlt, or_U, ofInt_U, ofInt_U, wrap_succ i (by omega), ih k (i + 1) _ (by omega) (by omega)]
    rw [List.drop_eq_getElem_cons hlt]
    rfl
theorem make_eq (p : BitVec 32) (l : List (BitVec 32)) (hl : l.length ≤ 4611686018427387904) (k : Nat) (hk : l.length + 4 ≤ k) :
    pte_Make.f k (U p) (l.map U) = some (U (makeB p (orAll 0#32 l))) := by
  have h0 : U 0#32 = 0 := rfl
  have := make_loop p l hl l.length k 0 0#32 (by omega) (by omega)
  rw [h0] at this
  unfold pte_Make.f
  rw [List.length_map]
  simpa using this

theorem first_true : corrallaw8_first.f 50 = some true := by decide +kernel
/-- What an access needs. -/
def needB (e : BitVec 32) (a : Int) : BitVec 32 := if a = 3 then e ||| 128#32 ||| 64#32 else e ||| 64#32
theorem needs_eq (e : BitVec 32) (a : Int) : pte_Needs.f (U e) a = some (U (needB e a)) := by
  have e1 : BitVec.ofInt 32 128 = 128#32 := rfl
  have e2 : BitVec.ofInt 32 64 = 64#32 := rfl
  unfold pte_Needs.f needB
  by_cases h : a = 3
  · rw [if_pos h, if_pos h, or_U, or_U, ofInt_U, ofInt_U, e1, e2]
  · rw [if_neg h, if_neg h, or_U, ofInt_U, e2]
theorem page_eq (e : BitVec 32) : pte_Page.f (U e) = some (U (e >>> 10)) := by
  unfold pte_Page.f; rw [← div_U e 10]; rfl
theorem b64 (i : Nat) : (64#32).getLsbD i = decide (i = 6) := by
  have : (64#32) = BitVec.twoPow 32 6 := by decide
  rw [this, BitVec.getLsbD_twoPow]
  by_cases c : i = 6
  · subst c; rfl
  · have : ¬ 6 = i := fun h => c h.symm
    simp [c, this]
theorem b128 (i : Nat) : (128#32).getLsbD i = decide (i = 7) := by
  have : (128#32) = BitVec.twoPow 32 7 := by decide
  rw [this, BitVec.getLsbD_twoPow]
  by_cases c : i = 7
  · subst c; rfl
  · have : ¬ 7 = i := fun h => c h.symm
    simp [c, this]
theorem needB_bit (e : BitVec 32) (a : Int) (i : Nat) : (needB e a).getLsbD i = (e.getLsbD i || decide (i = 6) || (decide (a = 3) && decide (i = 7))) := by
  unfold needB
  by_cases h : a = 3
  · rw [if_pos h, BitVec.getLsbD_or, BitVec.getLsbD_or, b64, b128]
    cases e.getLsbD i <;> by_cases c : i = 6 <;> by_cases c7 : i = 7 <;> simp [h, c, c7]
  · rw [if_neg h, BitVec.getLsbD_or, b64]
    simp [h]
theorem needB_again (e : BitVec 32) (a : Int) : needB (needB e a) a = needB e a := by
  apply BitVec.eq_of_getLsbD_eq; intro i _
  rw [needB_bit, needB_bit]
  cases e.getLsbD i <;> cases decide (i = 6) <;> cases decide (a = 3) <;> cases decide (i = 7) <;> rfl
theorem needB_page (e : BitVec 32) (a : Int) : needB e a >>> 10 = e >>> 10 := by
  apply BitVec.eq_of_getLsbD_eq; intro i _
  rw [BitVec.getLsbD_ushiftRight, BitVec.getLsbD_ushiftRight, needB_bit]
  have h6 : ¬ 10 + i = 6 := by omega
  have h7 : ¬ 10 + i = 7 := by omega
  simp [h6, h7]
theorem needB_new (e : BitVec 32) (a : Int) : (needB e a &&& ~~~ e) &&& ~~~ 192#32 = 0#32 := by
  have hb : (192#32) = 128#32 ||| 64#32 := by decide
  apply BitVec.eq_of_getLsbD_eq; intro i hi
  rw [BitVec.getLsbD_and, BitVec.getLsbD_and, BitVec.getLsbD_not, BitVec.getLsbD_not, needB_bit, hb, BitVec.getLsbD_or, b64, b128]
  cases e.getLsbD i <;> by_cases c : i = 6 <;> by_cases c7 : i = 7 <;> simp [c, c7]
theorem m22 : (4194303#32) = maskB 22 := by decide
theorem m10 : (1023#32) = maskB 10 := by decide
theorem make_page (p f : BitVec 32) : makeB p f >>> 10 = p &&& 4194303#32 := by
  apply BitVec.eq_of_getLsbD_eq; intro i hi
  rw [BitVec.getLsbD_ushiftRight, makeB_high p f _ (by omega), BitVec.getLsbD_and, m22, maskB_bit]
  have e : 10 + i - 10 = i := by omega
  rw [e]
  by_cases c : i < 22
  · have c1 : 10 + i < 32 := by omega
    have c2 : (i : Int) < 22 := by omega
    simp [c1, hi, c2]
  · have c1 : ¬ 10 + i < 32 := by omega
    have c2 : ¬ (i : Int) < 22 := by omega
    simp [c1, c2]
theorem make_flags (p f : BitVec 32) : makeB p f &&& 1023#32 = f &&& 1023#32 := by
  apply BitVec.eq_of_getLsbD_eq; intro i hi
  rw [BitVec.getLsbD_and, BitVec.getLsbD_and, m10, maskB_bit]
  by_cases c : i < 10
  · rw [makeB_low p f i c]
  · have c2 : ¬ (i : Int) < 10 := by omega
    simp [c2]
theorem tail (p e f : BitVec 32) (he : e = makeB p f) (vs : List (BitVec 32)) (a : Int) (d : Nat) (hl : vs.length ≤ 20) : ∀ (k i : Nat) (acc : BitVec 32), i + d = vs.length → d + 1 ≤ k → orAll acc (vs.drop i) = f →
    corrallaw8_PteMakes.l0 k (U p) (vs.map U) a (U e) (U acc) (i : Int) = some true := by
  induction d with
  | zero =>
    intro k i acc hi hk ho
    obtain ⟨k, rfl⟩ : ∃ m, k = m + 1 := ⟨k - 1, by omega⟩
    have ho : acc = f := by rw [List.drop_of_length_le (by omega)] at ho; exact ho
    have e1 : BitVec.ofInt 32 4194303 = 4194303#32 := rfl
    have e2 : BitVec.ofInt 32 1023 = 1023#32 := rfl
    have e3 : BitVec.ofInt 32 192 = 192#32 := rfl
    have z : U 0#32 = 0 := rfl
    subst ho he
    simp only [corrallaw8_PteMakes.l0, List.length_map]
    rw [if_neg (by omega)]
    simp only [needs_eq, page_eq, Option.bind_some, and_U, andNot_U, ofInt_U, e1, e2, e3, make_page, make_flags, needB_again, needB_new, needB_page, z, if_true, beq_self_eq_true]
  | succ d ih =>
    intro k i acc hi hk ho
    obtain ⟨k, rfl⟩ : ∃ m, k = m + 1 := ⟨k - 1, by omega⟩
    have hlt : i < vs.length := by omega
    simp only [corrallaw8_PteMakes.l0, List.length_map]
    rw [if_pos (by omega), if_pos (by omega), rd_map vs i hlt, or_U, ofInt_U, ofInt_U, wrap_succ i (by omega)]
    apply ih k (i + 1) _ (by omega) (by omega)
    rw [List.drop_eq_getElem_cons hlt] at ho
    exact ho
theorem main (p : BitVec 32) (vs : List (BitVec 32)) (a : Int) : corrallaw8_PteMakes.f 50 (U p) (vs.map U) a = some true := by
  unfold corrallaw8_PteMakes.f
  rw [first_true]
  simp only [Option.bind_some, if_true, List.length_map]
  by_cases h : (vs.length : Int) > 20
  · rw [if_pos h]; rfl
  · rw [if_neg h]
    have z : U 0#32 = 0 := rfl
    have hm := make_eq p vs (by omega) 49 (by omega)
    have ht := tail p (makeB p (orAll 0#32 vs)) (orAll 0#32 vs) rfl vs a vs.length (by omega) 49 0 0#32 (by omega) (by omega) rfl
    rw [z] at ht
    simp only [corrallaw8_PteMakes.j0, Bool.not_true]
    rw [if_neg (by decide), hm]
    simpa using ht
theorem words (l : List Int) (h : ∀ x ∈ l, (Lit.int .u32 x).wf = true) : ∃ vs : List (BitVec 32), l = vs.map U := by
  induction l with
  | nil => exact ⟨[], rfl⟩
  | cons x l ih =>
    obtain ⟨vs, rfl⟩ := ih fun y hy => h y (List.mem_cons_of_mem _ hy)
    obtain ⟨v, rfl⟩ := wf_u32 (h x (List.mem_cons_self ..))
    exact ⟨v :: vs, rfl⟩
end PteMakesP
theorem PteMakes : corrallaw8_PteMakes.Pure := by
  intro a0 l1 a2 h0 _ _ hl _
  obtain ⟨w, rfl⟩ := wf_u32 h0
  obtain ⟨vs, rfl⟩ := PteMakesP.words l1 hl
  exact ⟨50, PteMakesP.main w vs a2⟩

end Go.Proofs.Ythpaieglgjjbiaa.Pure
