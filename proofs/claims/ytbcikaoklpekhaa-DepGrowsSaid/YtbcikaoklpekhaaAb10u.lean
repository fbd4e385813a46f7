/- The abstract run, tenth part: a region that draws its order: quiet operations among such as leave alone what was there; then the rest, in its one order. -/
import Derived.Test.YtbcikaoklpekhaaAb10t
namespace Go.Proofs.Ytbcikaoklpekhaa.Ab
open Go Go.RowKit
set_option linter.unusedVariables false
set_option linter.unusedSimpArgs false
section
variable {P : Program} {ops : Array Oper} {md : Region.Mode} {C : World → Prop}
/-- The first part's operations, in any order, the class kept; then L. -/
def wpAnyL (P : Program) (md : Region.Mode) (ops : Array Oper) (C : World → Prop) (Q : Exit → Act → World → Prop) (L : Array Bool → Act → World → Prop) : Nat → Array Bool → Act → World → Prop
  | 0, s, a, w => C w ∧ L s a w
  | f + 1, s, a, w => C w ∧ Region.ready md ops s ≠ [] ∧ ∀ i ∈ Region.ready md ops s, wpOp P ops Q i (wpAnyL P md ops C Q L f (s.setIfInBounds i true)) a w
theorem wpAnyL.cls {Q : Exit → Act → World → Prop} {L : Array Bool → Act → World → Prop} {f : Nat} {s : Array Bool} {a : Act} {w : World} (h : wpAnyL P md ops C Q L f s a w) : C w := by
  cases f <;> exact h.1
theorem wpAny_of_L {Q : Exit → Act → World → Prop} {L : Array Bool → Act → World → Prop} {g : Nat} (hL : ∀ s a w, L s a w → wpAny P md ops Q g s a w) : ∀ (f : Nat) (s : Array Bool) (a : Act) (w : World), wpAnyL P md ops C Q L f s a w → wpAny P md ops Q (f + g) s a w
  | 0, s, a, w, h => by rw [Nat.zero_add]; exact hL _ _ _ h.2
  | f + 1, s, a, w, h => by
    rw [Nat.add_right_comm]
    exact ⟨fun h0 => absurd h0 h.2.1, fun i hi => wpOp_mono (fun a' w' h' => wpAny_of_L hL f _ a' w' h') (h.2.2 i hi)⟩
/-- One operation waits for another one, by way of such. -/
def anc (md : Region.Mode) (ops : Array Oper) (p1 : List Nat) (i : Nat) : Nat → Nat → Bool
  | 0, t => Region.waitsFor md ops t i
  | d + 1, t => Region.waitsFor md ops t i || p1.any fun j => Region.waitsFor md ops t j && anc md ops p1 i d j
/-- The check: no operation of the second part may come while one of the first is left. -/
def phaseB (md : Region.Mode) (ops : Array Oper) (p0 p1 : List Nat) : Bool :=
  (List.range ops.size).all fun t => p1.contains t || ((List.range ops.size).any (fun j => !p1.contains j && Region.waitsFor md ops t j) || p0.all fun i => anc md ops p1 i 6 t)
/-- What is listed is of the first part, and what it waits for is listed. -/
structure PInv (md : Region.Mode) (ops : Array Oper) (p1 : List Nat) (s : Array Bool) : Prop where
  closed : ∀ j oj, ops[j]? = some oj → s.getD j false = true → ∀ e ∈ oj.after, Region.binds md e = true → s.getD e.on false = true
  first : ∀ t, s.getD t false = true → t ∈ p1
theorem getD_set_self {s : Array Bool} {i : Nat} (h : i < s.size) (d : Bool) : (s.setIfInBounds i true).getD i d = true := by
  simp [Array.getD_eq_getD_getElem?, h]
theorem ready_lt {s : Array Bool} {i : Nat} (h : i ∈ Region.ready md ops s) : s.getD i true = false ∧ i < ops.size ∧ ∃ o, ops[i]? = some o ∧ ∀ e ∈ o.after, Region.binds md e = true → s.getD e.on false = true := by
  obtain ⟨h1, o, h2, h3⟩ := mem_ready.1 h
  exact ⟨h1, (Array.getElem?_eq_some_iff.1 h2).1, o, h2, h3⟩
theorem PInv.set {p1 : List Nat} {s : Array Bool} (h : PInv md ops p1 s) {i : Nat} (hr : i ∈ Region.ready md ops s) (hi : i ∈ p1) : PInv md ops p1 (s.setIfInBounds i true) := by
  obtain ⟨h1, h2, oi, hoi, hall⟩ := ready_lt hr
  have mono : ∀ j, s.getD j false = true → (s.setIfInBounds i true).getD j false = true := by
    intro j hj
    by_cases hji : i = j
    · subst hji
      rw [getD_both h1] at hj; cases hj
    · rw [getD_set_ne false hji]; exact hj
  refine ⟨fun j oj hoj hj e he hb => ?_, fun t ht => ?_⟩
  · by_cases hji : i = j
    · subst hji
      rw [hoi] at hoj; cases hoj
      exact mono _ (hall e he hb)
    · rw [getD_set_ne false hji] at hj
      exact mono _ (h.closed j oj hoj hj e he hb)
  · by_cases hti : i = t
    · subst hti; exact hi
    · rw [getD_set_ne false hti] at ht
      exact h.first t ht
theorem phase_waits {p0 p1 : List Nat} {s : Array Bool} (hp : phaseB md ops p0 p1 = true) (inv : PInv md ops p1 s) {i : Nat} (hi : i ∈ p0) (hun : s.getD i true = false) {t : Nat} (ht : t ∉ p1) : t ∉ Region.ready md ops s := by
  intro hr
  obtain ⟨_, hlt, ot, hot, hall⟩ := ready_lt hr
  have listed : ∀ j, Region.waitsFor md ops t j = true → s.getD j false = true := by
    intro j hj
    obtain ⟨o', ho', e, he, hb, hon⟩ := Region.waitsFor_spec hj
    rw [hot] at ho'; cases ho'
    have := hall e he hb
    rwa [hon] at this
  have h1 := List.all_eq_true.1 hp t (List.mem_range.2 hlt)
  simp only [Bool.or_eq_true] at h1
  rcases h1 with h1 | h1 | h1
  · exact ht (by simpa using h1)
  · obtain ⟨j, hj, hj2⟩ := List.any_eq_true.1 h1
    simp only [Bool.and_eq_true, Bool.not_eq_true'] at hj2
    have := inv.first j (listed j hj2.2)
    have hc : p1.contains j = true := by simpa using this
    rw [hc] at hj2; cases hj2.1
  · have h2 := List.all_eq_true.1 h1 i hi
    have no : s.getD i false = true → False := fun h => by rw [getD_both hun] at h; cases h
    have deep : ∀ (d j : Nat), s.getD j false = true → anc md ops p1 i d j = true → False := by
      intro d
      induction d with
      | zero =>
        intro j hj ha
        obtain ⟨oj, hoj, e, he, hb, hon⟩ := Region.waitsFor_spec ha
        have := inv.closed j oj hoj hj e he hb
        rw [hon] at this; exact no this
      | succ d ih =>
        intro j hj ha
        simp only [anc, Bool.or_eq_true] at ha
        rcases ha with ha | ha
        · obtain ⟨oj, hoj, e, he, hb, hon⟩ := Region.waitsFor_spec ha
          have := inv.closed j oj hoj hj e he hb
          rw [hon] at this; exact no this
        · obtain ⟨k, _, hk⟩ := List.any_eq_true.1 ha
          simp only [Bool.and_eq_true] at hk
          obtain ⟨oj, hoj, e, he, hb, hon⟩ := Region.waitsFor_spec hk.1
          have := inv.closed j oj hoj hj e he hb
          rw [hon] at this
          exact ih k this hk.2
    simp only [anc, Bool.or_eq_true] at h2
    rcases h2 with h2 | h2
    · exact no (listed i h2)
    · obtain ⟨j, _, hj2⟩ := List.any_eq_true.1 h2
      simp only [Bool.and_eq_true] at hj2
      exact deep 5 j (listed j hj2.1) (by simp only [anc, Bool.or_eq_true]; simpa using hj2.2)
/-- All of the first part are listed. -/
def Done1 (p1 : List Nat) (s : Array Bool) : Prop := ∀ j ∈ p1, s.getD j true = true
/-- A quiet operation that may come now may be taken as the first. -/
theorem wpAnyL_first {Q : Exit → Act → World → Prop} {L : Array Bool → Act → World → Prop} {p0 p1 : List Nat} {i : Nat} {oi : Oper} {v : Value} (hi : ops[i]? = some oi) (hip : i ∈ p0) (hp : phaseB md ops p0 p1 = true) (hsel : ∀ (j : Nat) (o : Oper) cs b, ops[j]? = some o → o.op ≠ .select cs b)
    (hQ : ∀ c a w, Q (.panic c) (a.put oi.dst v) w → Q (.panic c) a w) (hL : ∀ s a w, L s a w → Done1 p1 s) :
    ∀ (fuel : Nat) (s : Array Bool) (a : Act) (w : World), PInv md ops p1 s →
      (∀ j oj, ops[j]? = some oj → j ≠ i → s.getD j true = false → (∀ e ∈ oj.after, Region.binds md e = true → e.on ≠ i) → oi.apart ops oj = true) →
      i ∈ Region.ready md ops s → YieldsC P ops C oi v a →
      wpAnyL P md ops C Q L fuel (s.setIfInBounds i true) (a.put oi.dst v) w → wpAnyL P md ops C Q L (fuel + 1) s a w := by
  intro fuel
  induction fuel with
  | zero =>
    intro s a w inv _ hr hy H
    refine ⟨H.cls, fun h => (by rw [h] at hr; cases hr), fun j hj => ?_⟩
    by_cases hji : j = i
    · subst hji; exact hy.wpOp (Q := Q) hi H.cls H
    · exfalso
      by_cases hjp : j ∈ p1
      · have h1 := hL _ _ _ H.2 j hjp
        rw [getD_set_ne true (Ne.symm hji), (mem_ready.1 hj).1] at h1; cases h1
      · exact phase_waits hp inv hip (mem_ready.1 hr).1 hjp hj
  | succ fuel ih =>
    intro s a w inv hfree hr hy H
    refine ⟨H.cls, fun h => (by rw [h] at hr; cases hr), fun j hj => ?_⟩
    by_cases hji : j = i
    · subst hji; exact hy.wpOp (Q := Q) hi H.cls H
    · have hjp : j ∈ p1 := Classical.byContradiction fun h => phase_waits hp inv hip (mem_ready.1 hr).1 h hj
      have h1 := H.2.2 j (ready_mono hj hji)
      obtain ⟨hjun, oj, hoj, hall⟩ := mem_ready.1 hj
      have hnot : ∀ e ∈ oj.after, Region.binds md e = true → e.on ≠ i := fun e he hb heq => by
        have h1 := hall e he hb
        rw [heq, getD_both (mem_ready.1 hr).1] at h1
        cases h1
      have h2 := wpOp_putC hoj (hfree j oj hoj hji hjun hnot) (fun cs b => hsel i oi cs b hi) (fun cs b => hsel j oj cs b hoj) hQ hy h1
      have hfree' : ∀ k ok, ops[k]? = some ok → k ≠ i → (s.setIfInBounds j true).getD k true = false →
          (∀ e ∈ ok.after, Region.binds md e = true → e.on ≠ i) → oi.apart ops ok = true := fun k ok hk hki hun hno => by
        refine hfree k ok hk hki ?_ hno
        by_cases hjk : j = k
        · subst hjk; exact hjun
        · rw [getD_set_ne true hjk] at hun; exact hun
      refine wpOp_mono (fun a' w' h3 => ih (s.setIfInBounds j true) a' w' (inv.set hj hjp) hfree' (ready_mono hr (Ne.symm hji)) h3.1 ?_) h2
      rw [Array.setIfInBounds_comm _ _ hji]
      exact h3.2
/-- The first part's storing operations in this order, the class kept; then K. -/
def wpSeqL (P : Program) (ops : Array Oper) (C : World → Prop) (Q : Exit → Act → World → Prop) (K : Act → World → Prop) : List Nat → Act → World → Prop
  | [], a, w => C w ∧ K a w
  | i :: l, a, w => C w ∧ wpOp P ops Q i (wpSeqL P ops C Q K l) a w
/-- The second part, in its order. -/
def wpSeq2 (P : Program) (ops : Array Oper) (Q : Exit → Act → World → Prop) : List Nat → Act → World → Prop
  | [], a, w => Q .normal a w
  | i :: l, a, w => wpOp P ops Q i (wpSeq2 P ops Q l) a w
def tailB (md : Region.Mode) (ops : Array Oper) (p1 t2 : List Nat) : List Nat → Array Bool → Bool
  | [], s => p1.all (fun j => s.getD j true) && seqIB md ops t2 s
  | i :: t, s => decide (Region.ready md ops s = [i]) && (p1.contains i && tailB md ops p1 t2 t (s.setIfInBounds i true))
def twoB (md : Region.Mode) (ops : Array Oper) (p0 p1 t1 t2 : List Nat) : List Nat → Array Bool → Bool
  | [], s => tailB md ops p1 t2 t1 s
  | i :: h, s => (Region.ready md ops s).contains i && (Region.free md ops s i && ((p0.contains i && p1.contains i) && twoB md ops p0 p1 t1 t2 h (s.setIfInBounds i true)))
theorem wpAny_seq2 {Q : Exit → Act → World → Prop} : ∀ (t : List Nat) (s : Array Bool) (a : Act) (w : World), seqIB md ops t s = true → wpSeq2 P ops Q t a w → wpAny P md ops Q t.length s a w
  | [], s, a, w, hB, h => ⟨by simpa [seqIB] using hB, h⟩
  | i :: t, s, a, w, hB, h => by
    simp only [seqIB, Bool.and_eq_true, decide_eq_true_eq] at hB
    refine ⟨fun h1 => (by rw [hB.1] at h1; cases h1), fun j hj => ?_⟩
    rw [hB.1] at hj
    have hji : j = i := by simpa using hj
    subst hji
    exact wpOp_mono (fun a' w' h' => wpAny_seq2 t _ a' w' hB.2 h') h
/-- What comes behind the first part. -/
def Rest (P : Program) (md : Region.Mode) (ops : Array Oper) (Q : Exit → Act → World → Prop) (p1 t2 : List Nat) (s : Array Bool) (a : Act) (w : World) : Prop := Done1 p1 s ∧ seqIB md ops t2 s = true ∧ wpSeq2 P ops Q t2 a w
theorem wpAnyL_tail {Q : Exit → Act → World → Prop} {p1 t2 : List Nat} : ∀ (t : List Nat) (s : Array Bool) (a : Act) (w : World), tailB md ops p1 t2 t s = true → wpSeqL P ops C Q (wpSeq2 P ops Q t2) t a w → wpAnyL P md ops C Q (Rest P md ops Q p1 t2) t.length s a w
  | [], s, a, w, hB, h => by
    simp only [tailB, Bool.and_eq_true] at hB
    exact ⟨h.1, fun j hj => List.all_eq_true.1 hB.1 j hj, hB.2, h.2⟩
  | i :: t, s, a, w, hB, h => by
    simp only [tailB, Bool.and_eq_true, decide_eq_true_eq] at hB
    refine ⟨h.1, fun h1 => (by rw [hB.1] at h1; cases h1), fun j hj => ?_⟩
    rw [hB.1] at hj
    have hji : j = i := by simpa using hj
    subst hji
    exact wpOp_mono (fun a' w' h' => wpAnyL_tail t _ a' w' hB.2.2 h') h.2
theorem wpAnyL_head {Q : Exit → Act → World → Prop} {p0 p1 t1 t2 : List Nat} (hsel : Region.noSelect ops = true) (hp : phaseB md ops p0 p1 = true) (hQ : ∀ (o : Oper) v c a w, Q (.panic c) (a.put o.dst v) w → Q (.panic c) a w) : ∀ (h : List Nat) (s : Array Bool) (a : Act) (w : World), PInv md ops p1 s → twoB md ops p0 p1 t1 t2 h s = true →
    wpHeadC P ops C (fun a' => wpSeqL P ops C Q (wpSeq2 P ops Q t2) t1 a' w) h a → wpAnyL P md ops C Q (Rest P md ops Q p1 t2) (h.length + t1.length) s a w
  | [], s, a, w, inv, hB, h => by
    rw [List.length_nil, Nat.zero_add]; exact wpAnyL_tail t1 s a w hB h
  | i :: hd, s, a, w, inv, hB, h => by
    obtain ⟨o, v, h0, hy, hK⟩ := h
    simp only [twoB, Bool.and_eq_true] at hB
    have hr : i ∈ Region.ready md ops s := by simpa using hB.1
    have hip : i ∈ p0 := by simpa using hB.2.2.1.1
    have hip1 : i ∈ p1 := by simpa using hB.2.2.1.2
    rw [List.length_cons, Nat.add_right_comm]
    exact wpAnyL_first h0 hip hp (Region.noSelect_spec hsel) (hQ o v) (fun _ _ _ h => h.1) _ s a w inv (Region.free_spec h0 hB.2.1) hr hy (wpAnyL_head hsel hp hQ hd _ _ w (inv.set hr hip1) hB.2.2.2 hK)
theorem wpAnyC_of_any {Q : Exit → Act → World → Prop} : ∀ (f : Nat) (s : Array Bool) (a : Act) (w : World), wpAny P md ops Q f s a w → wpAnyC P md ops (fun _ => True) Q f s a w
  | 0, s, a, w, h => ⟨trivial, h⟩
  | f + 1, s, a, w, h => ⟨trivial, h.1, fun i hi => wpOp_mono (fun a' w' h' => wpAnyC_of_any f _ a' w' h') (h.2 i hi)⟩
/-- Operations on slots alone, ahead of all. -/
def preB (md : Region.Mode) (ops : Array Oper) (p0 p1 h t1 t2 : List Nat) : List Nat → Array Bool → Bool
  | [], s => twoB md ops p0 p1 t1 t2 h s
  | i :: r, s => (Region.ready md ops s).contains i && (Region.free md ops s i && (p1.contains i && preB md ops p0 p1 h t1 t2 r (s.setIfInBounds i true)))
theorem wpAny_pre {Q : Exit → Act → World → Prop} {p0 p1 h t1 t2 : List Nat} {K : Act → Prop} {g : Nat} {w : World} (hsel : Region.noSelect ops = true) (hQ : ∀ (o : Oper) v c a w, Q (.panic c) (a.put o.dst v) w → Q (.panic c) a w)
    (hK : ∀ s a, PInv md ops p1 s → twoB md ops p0 p1 t1 t2 h s = true → K a → wpAny P md ops Q g s a w) : ∀ (r : List Nat) (s : Array Bool) (a : Act), PInv md ops p1 s → preB md ops p0 p1 h t1 t2 r s = true → wpHeadC P ops (fun _ => True) K r a →
    wpAnyC P md ops (fun _ => True) Q (r.length + g) s a w
  | [], s, a, inv, hB, hh => by rw [List.length_nil, Nat.zero_add]; exact wpAnyC_of_any _ _ _ _ (hK s a inv hB hh)
  | i :: r, s, a, inv, hB, hh => by
    obtain ⟨o, v, h0, hy, hk⟩ := hh
    simp only [preB, Bool.and_eq_true] at hB
    have hr : i ∈ Region.ready md ops s := by simpa using hB.1
    have hip1 : i ∈ p1 := by simpa using hB.2.2.1
    rw [List.length_cons, Nat.add_right_comm]
    exact wpAnyC_first h0 (Region.noSelect_spec hsel) (hQ o v) _ s a w (Region.free_spec h0 hB.2.1) hr hy (wpAny_pre hsel hQ hK r _ _ (inv.set hr hip1) hB.2.2.2 hk)
/-- The check on such a region. -/
def twoOK (ops : Array Oper) (r h t1 t2 : List Nat) : Bool :=
  Region.noSelect ops && (Nat.beq (r.length + (h.length + t1.length + t2.length)) ops.size && (phaseB .any ops (h ++ t1) (r ++ (h ++ t1)) && preB .any ops (h ++ t1) (r ++ (h ++ t1)) h t1 t2 r (Array.replicate ops.size false)))
/-- A region that draws its order, by such a schedule. -/
theorem wp_region_two {id : Nat} {Q : Exit → Act → World → Prop} {a : Act} {w : World} {r h t1 t2 : List Nat} (hm : P.follows .mixedOrders = true) (hB : twoOK ops r h t1 t2 = true)
    (hQ : ∀ (o : Oper) v c a w, Q (.panic c) (a.put o.dst v) w → Q (.panic c) a w)
    (hh : wpHeadC P ops (fun _ => True) (fun a1 => wpHeadC P ops C (fun a' => wpSeqL P ops C Q (wpSeq2 P ops Q t2) t1 a' { w with drawn := w.drawn + 1 }) h a1) r a) : (Code.region id ops true).wp P Q a w := by
  simp only [twoOK, Bool.and_eq_true] at hB
  obtain ⟨hsel, hlen, hp, hB⟩ := hB
  refine wp_region_any hm ?_
  have inv : PInv .any ops (r ++ (h ++ t1)) (Array.replicate ops.size false) := ⟨fun j oj _ hl => (by rw [getD_replicate_false] at hl; cases hl), fun t ht => by rw [getD_replicate_false] at ht; cases ht⟩
  have := wpAny_of_C _ _ _ _ (wpAny_pre (md := .any) (g := h.length + t1.length + t2.length) (w := { w with drawn := w.drawn + 1 }) hsel hQ (fun s a inv hB hK =>
    wpAny_of_L (Q := Q) (g := t2.length) (fun s a w hL => wpAny_seq2 t2 s a w hL.2.1 hL.2.2) _ _ _ _ (wpAnyL_head (md := .any) hsel hp hQ h s a _ inv hB hK)) r _ a inv hB hh)
  rwa [Nat.eq_of_beq_eq_true hlen] at this
end
end Go.Proofs.Ytbcikaoklpekhaa.Ab
