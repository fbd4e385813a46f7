/- The abstract run, tenth part: a region that draws its order: quiet operations, calls too, and one that makes a variable, in any order; then the rest, in its one order. -/
import Derived.Test.YtbcikaoklpekhaaAb10u
namespace Go.Proofs.Ytbcikaoklpekhaa.Ab
open Go Go.RowKit
set_option linter.unusedVariables false
set_option linter.unusedSimpArgs false
section
variable {P : Program} {ops : Array Oper} {md : Region.Mode}
/-- The classes: ahead of it, and behind it. -/
def cls (C0 : World → Prop) (Cr : Nat → World → Prop) : Option Nat → World → Prop
  | none => C0
  | some r => Cr r
def ptrV (r : Nat) : Value := .pointer (some ⟨r, 0, none⟩)
def anyE (P : Program) (md : Region.Mode) (ops : Array Oper) (C0 : World → Prop) (Cr : Nat → World → Prop) (e : Nat) (oe : Oper) (L : Nat → Array Bool → Act → Prop) : Nat → Option Nat → Array Bool → Act → Prop
  | 0, none, _, _ => False
  | 0, some r, s, a => L r s a
  | f + 1, st, s, a => Region.ready md ops s ≠ [] ∧ ∀ i ∈ Region.ready md ops s, (i = e → st = none ∧ ∀ r, anyE P md ops C0 Cr e oe L f (some r) (s.setIfInBounds e true) (a.put oe.dst (ptrV r))) ∧ (i ≠ e → qOp P ops (cls C0 Cr st) i (anyE P md ops C0 Cr e oe L f st (s.setIfInBounds i true)) a)
variable {C0 : World → Prop} {Cr : Nat → World → Prop} {e : Nat} {oe : Oper} {L : Nat → Array Bool → Act → Prop}
/-- The operation that makes a variable does so in every world of the class ahead of it. -/
def MakesAt (P : Program) (C0 : World → Prop) (Cr : Nat → World → Prop) (oe : Oper) : Prop :=
  oe.guard = none ∧ ∀ (a : Act) w, C0 w → ∃ r w', (execOp a.eval oe).run P w = .ok (.value (ptrV r)) w' ∧ Cr r w'
theorem wpAny_of_anyE {Q : Exit → Act → World → Prop} {g : Nat} (he : ops[e]? = some oe) (hm : MakesAt P C0 Cr oe) (hL : ∀ r s a w, Cr r w → L r s a → wpAny P md ops Q g s a w) :
    ∀ (f : Nat) (st : Option Nat) (s : Array Bool) (a : Act) (w : World), cls C0 Cr st w → anyE P md ops C0 Cr e oe L f st s a → wpAny P md ops Q (f + g) s a w
  | 0, none, s, a, w, hw, h => h.elim
  | 0, some r, s, a, w, hw, h => by rw [Nat.zero_add]; exact hL r s a w hw h
  | f + 1, st, s, a, w, hw, h => by
    rw [Nat.add_right_comm]
    refine ⟨fun h0 => absurd h0 h.1, fun i hi => ?_⟩
    by_cases hie : i = e
    · obtain ⟨hst, h1⟩ := (h.2 i hi).1 hie
      rw [hst] at hw
      obtain ⟨r, w', h2, h3⟩ := hm.2 a w hw
      rw [hie]
      unfold wpOp
      simp only [he]
      have hwant : Region.wanted oe (yielded ops a.tmps) = true := by unfold Region.wanted; rw [hm.1]
      rw [if_pos hwant]
      left
      unfold Oper.wp
      rw [h2, Oper.upon_value]
      exact wpAny_of_anyE he hm hL f (some r) _ _ w' h3 (h1 r)
    · exact wpOp_of_qOp hw (fun a' w' hw' h' => wpAny_of_anyE he hm hL f st _ a' w' hw' h') ((h.2 i hi).2 hie)
/-- A quiet operation that may come now may be taken as the first. -/
theorem anyE_first {p1 : List Nat} {i : Nat} {oi : Oper} {v : Value} (hi : ops[i]? = some oi) (he : ops[e]? = some oe) (hie : i ≠ e) (hip : i ∈ p1) (hp : phaseB md ops p1 p1 = true) (hsel : ∀ (j : Nat) (o : Oper) cs b, ops[j]? = some o → o.op ≠ .select cs b)
    (hL : ∀ r s a, L r s a → Done1 p1 s) (f : Nat) :
    ∀ (st : Option Nat) (s : Array Bool) (a : Act), PInv md ops p1 s →
      (∀ j oj, ops[j]? = some oj → j ≠ i → s.getD j true = false → (∀ e ∈ oj.after, Region.binds md e = true → e.on ≠ i) → oi.apart ops oj = true) →
      i ∈ Region.ready md ops s → (∀ st, YieldsIn P ops (cls C0 Cr st) oi v a) → anyE P md ops C0 Cr e oe L f st (s.setIfInBounds i true) (a.put oi.dst v) → anyE P md ops C0 Cr e oe L (f + 1) st s a := by
  have hnot : ∀ (s : Array Bool) (j : Nat) (oj : Oper), i ∈ Region.ready md ops s → j ∈ Region.ready md ops s → ops[j]? = some oj → ∀ e ∈ oj.after, Region.binds md e = true → e.on ≠ i := by
    intro s j oj hr hj hoj e' he' hb heq
    obtain ⟨_, oj', hoj', hall⟩ := mem_ready.1 hj
    rw [hoj] at hoj'; cases hoj'
    have h1 := hall e' he' hb
    rw [heq, getD_both (mem_ready.1 hr).1] at h1
    cases h1
  induction f with
  | zero =>
    intro st s a inv hfree hr hy hA
    cases st with
    | none => exact hA.elim
    | some r =>
      refine ⟨fun h => (by rw [h] at hr; cases hr), fun j hj => ?_⟩
      by_cases hji : j = i
      · subst hji
        exact ⟨fun h => absurd h hie, fun _ => (hy _).qOp hi hA⟩
      · exfalso
        by_cases hjp : j ∈ p1
        · have h1 := hL _ _ _ hA j hjp
          rw [getD_set_ne true (Ne.symm hji), (mem_ready.1 hj).1] at h1; cases h1
        · exact phase_waits hp inv hip (mem_ready.1 hr).1 hjp hj
  | succ f ih =>
    intro st s a inv hfree hr hy hA
    refine ⟨fun h => (by rw [h] at hr; cases hr), fun j hj => ?_⟩
    by_cases hji : j = i
    · subst hji
      exact ⟨fun h => absurd h hie, fun _ => (hy _).qOp hi hA⟩
    · have hjp : j ∈ p1 := Classical.byContradiction fun h => phase_waits hp inv hip (mem_ready.1 hr).1 h hj
      have h1 := hA.2 j (ready_mono hj hji)
      obtain ⟨hjun, oj, hoj, _⟩ := mem_ready.1 hj
      have hap := hfree j oj hoj hji hjun (hnot s j oj hr hj hoj)
      obtain ⟨q1, q2, q3⟩ := Oper.apart_spec hap
      have keep : ∀ u st, YieldsIn P ops (cls C0 Cr st) oi v (a.put oj.dst u) := fun u st =>
        (hy st).of_same (execOp_put oi (fun cs b => hsel i oi cs b hi) a oj.dst u q3) (wanted_put oi a oj.dst u q3)
      have hfree' : ∀ k ok, ops[k]? = some ok → k ≠ i → (s.setIfInBounds j true).getD k true = false →
          (∀ e ∈ ok.after, Region.binds md e = true → e.on ≠ i) → oi.apart ops ok = true := fun k ok hk hki hun hno => by
        refine hfree k ok hk hki ?_ hno
        by_cases hjk : j = k
        · subst hjk; exact hjun
        · rw [getD_set_ne true hjk] at hun; exact hun
      have inv' := inv.set hj hjp
      refine ⟨fun hje => ?_, fun hje => ?_⟩
      · subst hje
        obtain ⟨hst, h2⟩ := h1.1 rfl
        rw [he] at hoj; cases hoj
        refine ⟨hst, fun r => ih (some r) _ _ inv' hfree' (ready_mono hr (Ne.symm hji)) (keep _) ?_⟩
        rw [Array.setIfInBounds_comm _ _ hji, ← Act.put_comm a v (ptrV r) q2]
        exact h2 r
      · obtain ⟨u, hyj, hk⟩ := yieldsIn_of_qOp hoj (h1.2 hje)
        have hyj' : YieldsIn P ops (cls C0 Cr st) oj u a := hyj.of_same (execOp_put oj (fun cs b => hsel j oj cs b hoj) a oi.dst v q1).symm (wanted_put oj a oi.dst v q1).symm
        refine hyj'.qOp hoj (ih st _ _ inv' hfree' (ready_mono hr (Ne.symm hji)) (keep u) ?_)
        rw [Array.setIfInBounds_comm _ _ hji, ← Act.put_comm a v u q2]
        exact hk
/-- The quiet operations, in this order. -/
def wpQs (P : Program) (ops : Array Oper) (C0 : World → Prop) (Cr : Nat → World → Prop) (K : Act → Prop) : List Nat → Act → Prop
  | [], a => K a
  | i :: l, a => ∃ o v, ops[i]? = some o ∧ (∀ st, YieldsIn P ops (cls C0 Cr st) o v a) ∧ wpQs P ops C0 Cr K l (a.put o.dst v)
def oneB (md : Region.Mode) (ops : Array Oper) (p1 : List Nat) (e : Nat) (t2 : List Nat) : List Nat → Array Bool → Bool
  | [], s => decide (Region.ready md ops s = [e]) && (p1.all (fun j => (s.setIfInBounds e true).getD j true) && seqIB md ops t2 (s.setIfInBounds e true))
  | i :: l, s => !(Nat.beq i e) && ((Region.ready md ops s).contains i && (Region.free md ops s i && (p1.contains i && oneB md ops p1 e t2 l (s.setIfInBounds i true))))
def RestE (P : Program) (md : Region.Mode) (ops : Array Oper) (Q : Exit → Act → World → Prop) (Cr : Nat → World → Prop) (p1 t2 : List Nat) (r : Nat) (s : Array Bool) (a : Act) : Prop := Done1 p1 s ∧ seqIB md ops t2 s = true ∧ ∀ w, Cr r w → wpSeq2 P ops Q t2 a w
theorem anyE_all {Q : Exit → Act → World → Prop} {p1 t2 : List Nat} (he : ops[e]? = some oe) (hsel : Region.noSelect ops = true) (hp : phaseB md ops p1 p1 = true) : ∀ (l : List Nat) (s : Array Bool) (a : Act), PInv md ops p1 s → oneB md ops p1 e t2 l s = true →
    wpQs P ops C0 Cr (fun a' => ∀ r w, Cr r w → wpSeq2 P ops Q t2 (a'.put oe.dst (ptrV r)) w) l a → anyE P md ops C0 Cr e oe (RestE P md ops Q Cr p1 t2) (l.length + 1) none s a
  | [], s, a, inv, hB, h => by
    simp only [oneB, Bool.and_eq_true, decide_eq_true_eq] at hB
    refine ⟨fun h1 => (by rw [hB.1] at h1; cases h1), fun j hj => ?_⟩
    rw [hB.1] at hj
    have hje : j = e := by simpa using hj
    refine ⟨fun _ => ⟨rfl, fun r => ⟨fun j hj => List.all_eq_true.1 hB.2.1 j hj, hB.2.2, fun w hw => h r w hw⟩⟩, fun hne => absurd hje hne⟩
  | i :: l, s, a, inv, hB, h => by
    obtain ⟨o, v, h0, hy, hK⟩ := h
    simp only [oneB, Bool.and_eq_true, Bool.not_eq_true'] at hB
    have hie : i ≠ e := fun h => by subst h; rw [Nat.beq_refl] at hB; cases hB.1
    have hr : i ∈ Region.ready md ops s := by simpa using hB.2.1
    have hip : i ∈ p1 := by simpa using hB.2.2.2.1
    exact anyE_first h0 he hie hip hp (Region.noSelect_spec hsel) (fun _ _ _ h => h.1) _ none s a inv (Region.free_spec h0 hB.2.2.1) hr hy (anyE_all he hsel hp l _ _ (inv.set hr hip) hB.2.2.2.2 hK)
/-- The check on such a region. -/
def oneOK (ops : Array Oper) (qs : List Nat) (e : Nat) (t2 : List Nat) : Bool :=
  Region.noSelect ops && (Nat.beq (qs.length + 1 + t2.length) ops.size && (phaseB .any ops (qs ++ [e]) (qs ++ [e]) && oneB .any ops (qs ++ [e]) e t2 qs (Array.replicate ops.size false)))
/-- A region that draws its order, by such a schedule. -/
theorem wp_region_one {id : Nat} {Q : Exit → Act → World → Prop} {a : Act} {w : World} {qs t2 : List Nat} (hm : P.follows .mixedOrders = true) (hB : oneOK ops qs e t2 = true) (he : ops[e]? = some oe) (hmk : MakesAt P C0 Cr oe) (hC : C0 { w with drawn := w.drawn + 1 })
    (hh : wpQs P ops C0 Cr (fun a' => ∀ r w, Cr r w → wpSeq2 P ops Q t2 (a'.put oe.dst (ptrV r)) w) qs a) : (Code.region id ops true).wp P Q a w := by
  simp only [oneOK, Bool.and_eq_true] at hB
  obtain ⟨hsel, hlen, hp, hB⟩ := hB
  refine wp_region_any hm ?_
  have inv : PInv .any ops (qs ++ [e]) (Array.replicate ops.size false) := ⟨fun j oj _ hl => (by rw [getD_replicate_false] at hl; cases hl), fun t ht => by rw [getD_replicate_false] at ht; cases ht⟩
  have := wpAny_of_anyE (md := .any) (Q := Q) (g := t2.length) he hmk (fun r s a w hw hL => wpAny_seq2 t2 s a w hL.2.1 (hL.2.2 w hw)) _ none _ a _ hC (anyE_all (md := .any) he hsel hp qs _ a inv hB hh)
  rwa [Nat.eq_of_beq_eq_true hlen] at this
end
end Go.Proofs.Ytbcikaoklpekhaa.Ab
