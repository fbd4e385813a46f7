/- The abstract run, tenth part, second half: a region that draws its order, in which quiet operations stand behind such as write: the quiet ones first, in a class of worlds that the writing ones keep. -/
import Derived.Test.YtbcikaoklpekhaaAb10
namespace Go.Proofs.Ytbcikaoklpekhaa.Ab
open Go Go.RowKit
set_option linter.unusedVariables false
set_option linter.unusedSimpArgs false
section
variable {P : Program} {ops : Array Oper} {md : Region.Mode} {C : World → Prop}
/-- Any order, and the class is kept. -/
def wpAnyC (P : Program) (md : Region.Mode) (ops : Array Oper) (C : World → Prop) (Q : Exit → Act → World → Prop) : Nat → Array Bool → Act → World → Prop
  | 0, s, a, w => C w ∧ Region.ready md ops s = [] ∧ Q .normal a w
  | f + 1, s, a, w => C w ∧ (Region.ready md ops s = [] → Q .normal a w) ∧ ∀ i ∈ Region.ready md ops s, wpOp P ops Q i (wpAnyC P md ops C Q f (s.setIfInBounds i true)) a w
theorem wpAnyC.cls {Q : Exit → Act → World → Prop} {f : Nat} {s : Array Bool} {a : Act} {w : World} (h : wpAnyC P md ops C Q f s a w) : C w := by
  cases f <;> exact h.1
theorem wpAny_of_C {Q : Exit → Act → World → Prop} : ∀ (f : Nat) (s : Array Bool) (a : Act) (w : World), wpAnyC P md ops C Q f s a w → wpAny P md ops Q f s a w
  | 0, s, a, w, h => h.2
  | f + 1, s, a, w, h => ⟨h.2.1, fun i hi => wpOp_mono (fun a' w' h' => wpAny_of_C f _ a' w' h') (h.2.2 i hi)⟩
/-- One value, in every world of the class, and the world as it was. -/
def YieldsC (P : Program) (ops : Array Oper) (C : World → Prop) (o : Oper) (v : Value) (a : Act) : Prop :=
  (Region.wanted o (yielded ops a.tmps) = true ∧ ∀ w, C w → (execOp a.eval o).run P w = .ok (.value v) w) ∨
  (Region.wanted o (yielded ops a.tmps) = false ∧ v = undef)
theorem YieldsC.of_same {o : Oper} {v : Value} {a a' : Act} (hy : YieldsC P ops C o v a) (he : execOp a'.eval o = execOp a.eval o)
    (hw : Region.wanted o (yielded ops a'.tmps) = Region.wanted o (yielded ops a.tmps)) : YieldsC P ops C o v a' := by
  unfold YieldsC at *
  rw [he, hw]
  exact hy
theorem YieldsC.wpOp {Q : Exit → Act → World → Prop} {i : Nat} {o : Oper} {v : Value} {a : Act} (hi : ops[i]? = some o) (hy : YieldsC P ops C o v a)
    {K : Act → World → Prop} {w : World} (hC : C w) (h : K (a.put o.dst v) w) : wpOp P ops Q i K a w := by
  unfold Go.wpOp
  simp only [hi]
  rcases hy with ⟨hw, hv⟩ | ⟨hw, rfl⟩
  · simp only [hw, if_true, Oper.wp, hv w hC, Oper.upon]; exact .inl h
  · simp only [hw, Bool.false_eq_true, if_false]; exact h
theorem wpOp_putC {Q : Exit → Act → World → Prop} {j : Nat} {oi oj : Oper} {v : Value} (hj : ops[j]? = some oj) (hap : oi.apart ops oj = true)
    (hsi : ∀ cs b, oi.op ≠ .select cs b) (hsj : ∀ cs b, oj.op ≠ .select cs b)
    (hQ : ∀ c a w, Q (.panic c) (a.put oi.dst v) w → Q (.panic c) a w) {K : Act → World → Prop} {a : Act} {w : World}
    (hy : YieldsC P ops C oi v a) (h : wpOp P ops Q j K (a.put oi.dst v) w) :
    wpOp P ops Q j (fun a' w' => YieldsC P ops C oi v a' ∧ K (a'.put oi.dst v) w') a w := by
  obtain ⟨h1, h2, h3⟩ := Oper.apart_spec hap
  have keep : ∀ (a : Act), YieldsC P ops C oi v a → ∀ u, YieldsC P ops C oi v (a.put oj.dst u) := fun a hy u =>
    hy.of_same (execOp_put oi hsi a oj.dst u h3) (wanted_put oi a oj.dst u h3)
  have keepD : ∀ d, YieldsC P ops C oi v { a with defers := d :: a.defers } := fun d => hy.of_same rfl rfl
  unfold wpOp at *
  simp only [hj] at *
  rw [wanted_put oj a oi.dst v h1] at h
  split
  · rename_i hw
    simp only [hw, if_true] at h
    rcases h with h | ⟨hasks, hlets⟩
    case inr => exact .inr ⟨by unfold Oper.asks at *; rw [execOp_put oj hsj a oi.dst v h1] at hasks; exact hasks, hlets⟩
    refine .inl ?_
    unfold Oper.wp at *
    rw [execOp_put oj hsj a oi.dst v h1] at h
    generalize (execOp a.eval oj).run P w = r at *
    cases r with
    | ok n w' =>
      cases n <;> simp only [Oper.upon] at h ⊢
      case value u => exact ⟨keep a hy u, by rw [← Act.put_comm a v u h2]; exact h⟩
      case skip => exact ⟨keep a hy _, by rw [← Act.put_comm a v undef h2]; exact h⟩
      case defer d =>
        refine ⟨keep _ (keepD d) _, ?_⟩
        rw [← Act.put_comm _ v undef h2, ← Act.put_defers]
        exact h
      case enter f args =>
        refine Calls.mono h fun e w'' he => ?_
        cases e with
        | returned u => exact ⟨keep a hy u, by rw [← Act.put_comm a v u h2]; exact he⟩
        | panicked c => exact hQ _ _ _ he
        | outgrown => exact he
      case row row args => exact Rows.mono h fun u w'' he => ⟨keep a hy u, by rw [← Act.put_comm a v u h2]; exact he⟩
    | halt x w' =>
      cases x <;> simp only [Oper.upon] at h ⊢
      case panic u => exact hQ _ _ _ h
  · rename_i hw
    simp only [hw] at h
    exact ⟨keep a hy _, by rw [← Act.put_comm a v undef h2]; exact h⟩
/-- A quiet operation that may come now may be taken as the first, ahead of such as write, too. -/
theorem wpAnyC_first {Q : Exit → Act → World → Prop} {i : Nat} {oi : Oper} {v : Value} (hi : ops[i]? = some oi) (hsel : ∀ (j : Nat) (o : Oper) cs b, ops[j]? = some o → o.op ≠ .select cs b)
    (hQ : ∀ c a w, Q (.panic c) (a.put oi.dst v) w → Q (.panic c) a w) :
    ∀ (fuel : Nat) (s : Array Bool) (a : Act) (w : World),
      (∀ j oj, ops[j]? = some oj → j ≠ i → s.getD j true = false → (∀ e ∈ oj.after, Region.binds md e = true → e.on ≠ i) → oi.apart ops oj = true) →
      i ∈ Region.ready md ops s → YieldsC P ops C oi v a →
      wpAnyC P md ops C Q fuel (s.setIfInBounds i true) (a.put oi.dst v) w → wpAnyC P md ops C Q (fuel + 1) s a w := by
  intro fuel
  induction fuel with
  | zero =>
    intro s a w _ hr hy H
    refine ⟨H.cls, fun h => (by rw [h] at hr; cases hr), fun j hj => ?_⟩
    by_cases hji : j = i
    · subst hji; exact hy.wpOp hi H.cls H
    · have := ready_mono hj hji
      rw [H.2.1] at this
      cases this
  | succ fuel ih =>
    intro s a w hfree hr hy H
    refine ⟨H.cls, fun h => (by rw [h] at hr; cases hr), fun j hj => ?_⟩
    by_cases hji : j = i
    · subst hji; exact hy.wpOp hi H.cls H
    · have h1 := H.2.2 j (ready_mono hj hji)
      obtain ⟨hjun, oj, hoj, hall⟩ := mem_ready.1 hj
      have hnot : ∀ e ∈ oj.after, Region.binds md e = true → e.on ≠ i := fun e he hb heq => by
        have h1 := hall e he hb
        rw [heq, getD_both (mem_ready.1 hr).1] at h1
        cases h1
      have h2 := wpOp_putC hoj (hfree j oj hoj hji hjun hnot) (fun cs b => hsel i oi cs b hi) (fun cs b => hsel j oj cs b hoj) hQ hy h1
      have hfree' : ∀ k ok, ops[k]? = some ok → k ≠ i → (s.setIfInBounds j true).getD k true = false →
          (∀ e ∈ ok.after, Region.binds md e = true → e.on ≠ i) → oi.apart ops ok = true := fun k ok hk hki hun hno => by
        refine hfree k ok hk hki ?_ hno
        by_cases hjk : j = k
        · subst hjk; exact hjun
        · rw [getD_set_ne true hjk] at hun; exact hun
      refine wpOp_mono (fun a' w' h3 => ih (s.setIfInBounds j true) a' w' hfree' (ready_mono hr (Ne.symm hji)) h3.1 ?_) h2
      rw [Array.setIfInBounds_comm _ _ hji]
      exact h3.2
/-- The tail's operations, in this order, the class kept behind each. -/
def wpSeqC (P : Program) (ops : Array Oper) (C : World → Prop) (Q : Exit → Act → World → Prop) : List Nat → Act → World → Prop
  | [], a, w => C w ∧ Q .normal a w
  | i :: l, a, w => C w ∧ wpOp P ops Q i (wpSeqC P ops C Q l) a w
/-- The head's operations, in this order: each yields one value in the class; then the tail. -/
def wpHeadC (P : Program) (ops : Array Oper) (C : World → Prop) (K : Act → Prop) : List Nat → Act → Prop
  | [], a => K a
  | i :: l, a => ∃ o v, ops[i]? = some o ∧ YieldsC P ops C o v a ∧ wpHeadC P ops C K l (a.put o.dst v)
/-- The check: only this order is left. -/
def seqIB (md : Region.Mode) (ops : Array Oper) : List Nat → Array Bool → Bool
  | [], s => (Region.ready md ops s).isEmpty
  | i :: t, s => decide (Region.ready md ops s = [i]) && seqIB md ops t (s.setIfInBounds i true)
/-- The check: the head's operations in this order may be taken first; then only one order is left. -/
def schedB (md : Region.Mode) (ops : Array Oper) : List Nat → List Nat → Array Bool → Bool
  | [], t, s => seqIB md ops t s
  | i :: h, t, s => (Region.ready md ops s).contains i && Region.free md ops s i && schedB md ops h t (s.setIfInBounds i true)
theorem wpAnyC_seq {Q : Exit → Act → World → Prop} : ∀ (t : List Nat) (s : Array Bool) (a : Act) (w : World), seqIB md ops t s = true → wpSeqC P ops C Q t a w → wpAnyC P md ops C Q t.length s a w
  | [], s, a, w, hB, h => ⟨h.1, by simpa [seqIB] using hB, h.2⟩
  | i :: t, s, a, w, hB, h => by
    simp only [seqIB, Bool.and_eq_true, decide_eq_true_eq] at hB
    refine ⟨h.1, fun h1 => (by rw [hB.1] at h1; cases h1), fun j hj => ?_⟩
    rw [hB.1] at hj
    have hji : j = i := by simpa using hj
    subst hji
    exact wpOp_mono (fun a' w' h' => wpAnyC_seq t _ a' w' hB.2 h') h.2
theorem wpAnyC_head {Q : Exit → Act → World → Prop} (hsel : Region.noSelect ops = true) (hQ : ∀ (o : Oper) v c a w, Q (.panic c) (a.put o.dst v) w → Q (.panic c) a w) : ∀ (h t : List Nat) (s : Array Bool) (a : Act) (w : World), schedB md ops h t s = true → wpHeadC P ops C (fun a' => wpSeqC P ops C Q t a' w) h a →
    wpAnyC P md ops C Q (h.length + t.length) s a w
  | [], t, s, a, w, hB, h => by
    rw [List.length_nil, Nat.zero_add]; exact wpAnyC_seq t s a w hB h
  | i :: hd, t, s, a, w, hB, h => by
    obtain ⟨o, v, h0, hy, hK⟩ := h
    simp only [schedB, Bool.and_eq_true] at hB
    have hr : i ∈ Region.ready md ops s := by simpa using hB.1.1
    rw [List.length_cons, Nat.add_right_comm]
    exact wpAnyC_first h0 (Region.noSelect_spec hsel) (hQ o v) _ s a w (Region.free_spec h0 hB.1.2) hr hy (wpAnyC_head hsel hQ hd t _ _ w hB.2 hK)
/-- A region that draws its order, by such a schedule. -/
theorem wp_region_sched {id : Nat} {Q : Exit → Act → World → Prop} {a : Act} {w : World} {h t : List Nat} (hm : P.follows .mixedOrders = true) (hsel : Region.noSelect ops = true) (hlen : h.length + t.length = ops.size) (hB : schedB .any ops h t (Array.replicate ops.size false) = true)
    (hQ : ∀ (o : Oper) v c a w, Q (.panic c) (a.put o.dst v) w → Q (.panic c) a w) (hh : wpHeadC P ops C (fun a' => wpSeqC P ops C Q t a' { w with drawn := w.drawn + 1 }) h a) : (Code.region id ops true).wp P Q a w := by
  refine wp_region_any hm ?_
  have := wpAnyC_head (md := .any) hsel hQ h t _ a _ hB hh
  rw [hlen] at this
  exact wpAny_of_C _ _ _ _ this
end
end Go.Proofs.Ytbcikaoklpekhaa.Ab
