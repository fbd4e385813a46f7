/- Trimmed: Ab10v -/
import Derived.Test.YtgkicojmgokinaaGreatDoorAb9f
import Derived.StillTail
namespace Go.Proofs.YtgkicojmgokinaaGreatDoor.Ab
open Go Go.RowKit
set_option linter.unusedVariables false
set_option linter.unusedSimpArgs false
section
variable {P : Program} {ops : Array Oper} {md : Region.Mode} {C : World → Prop}
def anyH (P : Program) (md : Region.Mode) (ops : Array Oper) (C : World → Prop) (n : Nat) (L : Array Bool → Act → Prop) : Nat → Array Bool → Act → Prop
  | 0, s, a => L s a
  | f + 1, s, a => Region.ready md ops s ≠ [] ∧ ∀ i ∈ Region.ready md ops s, i < n ∧ qOp P ops C i (anyH P md ops C n L f (s.setIfInBounds i true)) a
theorem wpAny_of_anyH {n g : Nat} {L : Array Bool → Act → Prop} {Q : Exit → Act → World → Prop} (hL : ∀ s a w, C w → L s a → wpAny P md ops Q g s a w) :
    ∀ (f : Nat) (s : Array Bool) (a : Act) (w : World), C w → anyH P md ops C n L f s a → wpAny P md ops Q (f + g) s a w
  | 0, s, a, w, hw, h => by rw [Nat.zero_add]; exact hL _ _ _ hw h
  | f + 1, s, a, w, hw, h => by
    rw [Nat.add_right_comm]
    exact ⟨fun h0 => absurd h0 h.1, fun i hi => wpOp_of_qOp hw (fun a' w' hw' h' => wpAny_of_anyH hL f _ a' w' hw' h') (h.2 i hi).2⟩
theorem anyH_first {n i : Nat} {oi : Oper} {v : Value} {L : Array Bool → Act → Prop} (hi : ops[i]? = some oi) (hsel : ∀ (j : Nat) (o : Oper) cs b, ops[j]? = some o → o.op ≠ .select cs b)
    (hs : Region.sinkB md ops n = true) (hc : Region.chainB md ops n = true) (hn : n < ops.size) (hin : i < n) (hdone : ∀ s a, L s a → ∀ j ∈ Region.ready md ops s, n ≤ j) (f : Nat) :
    ∀ (s : Array Bool) (a : Act), HeadInv md ops n s →
      (∀ j oj, ops[j]? = some oj → j ≠ i → s.getD j true = false → (∀ e ∈ oj.after, Region.binds md e = true → e.on ≠ i) → oi.apart ops oj = true) →
      i ∈ Region.ready md ops s → YieldsIn P ops C oi v a → anyH P md ops C n L f (s.setIfInBounds i true) (a.put oi.dst v) → anyH P md ops C n L (f + 1) s a := by
  induction f with
  | zero =>
    intro s a inv _ hr hy hL
    refine ⟨fun h => (by rw [h] at hr; cases hr), fun j hj => ?_⟩
    by_cases hji : j = i
    · subst hji; exact ⟨hin, hy.qOp hi hL⟩
    · have h1 := hdone _ _ hL j (ready_mono hj hji)
      exact absurd hj (tail_waits hs hc hn inv _ i rfl hin (mem_ready.1 hr).1 j h1)
  | succ f ih =>
    intro s a inv hfree hr hy hA
    refine ⟨fun h => (by rw [h] at hr; cases hr), fun j hj => ?_⟩
    have hjn : j < n := Nat.lt_of_not_le fun h => tail_waits hs hc hn inv _ i rfl hin (mem_ready.1 hr).1 j h hj
    by_cases hji : j = i
    · subst hji; exact ⟨hin, hy.qOp hi hA⟩
    · have h1 := (hA.2 j (ready_mono hj hji)).2
      obtain ⟨hjs, oj, hoj, hall⟩ := mem_ready.1 hj
      have hno : ∀ e ∈ oj.after, Region.binds md e = true → e.on ≠ i := fun e he hb heq => by
        have h2 := hall e he hb
        rw [heq, getD_both (mem_ready.1 hr).1] at h2
        cases h2
      refine ⟨hjn, qOp_mono (fun a' h3 => ih _ a' (inv.set hj hjn) (fun k ok hk hki hks hke => hfree k ok hk hki ?_ hke) (ready_mono hr (Ne.symm hji)) h3.1 ?_) (qOp_put hoj (hfree j oj hoj hji hjs hno) (fun cs b => hsel i oi cs b hi) (fun cs b => hsel j oj cs b hoj) hy h1)⟩
      · by_cases hjk : j = k
        · subst hjk; exact hjs
        · rwa [getD_set_ne true hjk] at hks
      · rw [Array.setIfInBounds_comm _ _ hji]; exact h3.2
theorem anyH_lex {n g : Nat} {K : Act → Prop} (hsel : Region.noSelect ops = true) (hs : Region.sinkB md ops n = true) (hc : Region.chainB md ops n = true) (hn : n < ops.size) :
    ∀ (l : List Oper) (k : Nat) (s : Array Bool) (a : Act), (∀ j, j < l.length → l[j]? = ops[k + j]?) → k + l.length = n → HeadInv md ops n s → Region.lexHead md ops g l.length k s = true → wpQuiet P ops C K l a →
      anyH P md ops C n (fun s' a' => Region.seqB md ops g n s' = true ∧ K a') l.length s a
  | [], k, s, a, _, hk, _, hB, h => by
    obtain rfl : k = n := by simpa using hk
    exact ⟨by simpa [Region.lexHead] using hB, h⟩
  | o :: l, k, s, a, hl, hk, inv, hB, h => by
    have h0 : ops[k]? = some o := by simpa using (hl 0 (by simp)).symm
    simp only [List.length_cons, Region.lexHead, Bool.and_eq_true] at hB
    simp only [List.length_cons] at hk
    have hr : k ∈ Region.ready md ops s := by simpa using hB.1.1
    obtain ⟨v, hy, hK⟩ := yieldsIn_of_qOp (P := P) (C := C) (K := wpQuiet P ops C K l) h0 (by unfold qOp; simp only [h0]; exact h)
    exact anyH_first h0 (Region.noSelect_spec hsel) hs hc hn (by omega) (fun s' a' hL => seqB_ready hL.1) l.length s a inv (Region.free_spec h0 hB.1.2) hr hy
      (anyH_lex hsel hs hc hn l (k + 1) _ _ (fun j hj => by have := hl (j + 1) (by simp; omega); simpa [Nat.add_assoc, Nat.add_comm 1 j] using this) (by omega) (inv.set hr (by omega)) hB.2 hK)
theorem wp_region_split {id : Nat} {Q : Exit → Act → World → Prop} {a : Act} {w : World} {l : List Oper} (n : Nat) (hm : P.follows .mixedOrders = true) (hB : Region.lexTailB .any l.toArray n = true) (hC : C { w with drawn := w.drawn + 1 })
    (h : wpQuiet P l.toArray C (fun a' => ∀ w', C w' → wpList P l.toArray Q (l.drop n) a' w') (l.take n) a) : (Code.region id l.toArray true).wp P Q a w := by
  simp only [Region.lexTailB, Bool.and_eq_true, decide_eq_true_eq] at hB
  obtain ⟨⟨⟨⟨hsel, hn⟩, hs⟩, hc⟩, hlex⟩ := hB
  have hn' : n < l.length := by simpa using hn
  have htl : (l.take n).length = n := by simp; omega
  have hdl : (l.drop n).length = l.toArray.size - n := by simp
  have inv0 : HeadInv .any l.toArray n (Array.replicate l.toArray.size false) :=
    ⟨by simp, fun j oj _ hl => (by rw [getD_replicate_false] at hl; cases hl), fun t _ ht => getD_in (by simpa using ht) (getD_replicate_false _ _)⟩
  have H := anyH_lex (md := .any) (g := l.toArray.size - n) hsel hs hc hn (l.take n) 0 _ a (fun j hj => by
    rw [htl] at hj
    simp [hj]) (by simpa using htl) inv0 (by rw [htl]; exact hlex) h
  refine wp_region_any hm ?_
  have := wpAny_of_anyH (Q := Q) (g := l.toArray.size - n) (fun s a' w' hw' hL => by
    have := wpAny_of_seq (md := .any) (Q' := Q) (l.drop n) n s a' w' (fun j => by simp [List.getElem?_drop]) (by rw [hdl]; exact hL.1) (hL.2 w' hw')
    rwa [hdl] at this) _ _ _ _ hC H
  rw [htl, show n + (l.toArray.size - n) = l.toArray.size by omega] at this
  exact this
end
end Go.Proofs.YtgkicojmgokinaaGreatDoor.Ab
namespace Go.Proofs.YtgkicojmgokinaaGreatDoor.Ab
open Go Go.RowKit
set_option linter.unusedVariables false
set_option linter.unusedSimpArgs false
section
variable {P : Program} {ops : Array Oper} {md : Region.Mode} {C : World → Prop}
def wpAnyC (P : Program) (md : Region.Mode) (ops : Array Oper) (C : World → Prop) (Q : Exit → Act → World → Prop) : Nat → Array Bool → Act → World → Prop
  | 0, s, a, w => C w ∧ Region.ready md ops s = [] ∧ Q .normal a w
  | f + 1, s, a, w => C w ∧ (Region.ready md ops s = [] → Q .normal a w) ∧ ∀ i ∈ Region.ready md ops s, wpOp P ops Q i (wpAnyC P md ops C Q f (s.setIfInBounds i true)) a w
theorem wpAnyC.cls {Q : Exit → Act → World → Prop} {f : Nat} {s : Array Bool} {a : Act} {w : World} (h : wpAnyC P md ops C Q f s a w) : C w := by
  cases f <;> exact h.1
theorem wpAny_of_C {Q : Exit → Act → World → Prop} : ∀ (f : Nat) (s : Array Bool) (a : Act) (w : World), wpAnyC P md ops C Q f s a w → wpAny P md ops Q f s a w
  | 0, s, a, w, h => h.2
  | f + 1, s, a, w, h => ⟨h.2.1, fun i hi => wpOp_mono (fun a' w' h' => wpAny_of_C f _ a' w' h') (h.2.2 i hi)⟩
def YieldsC (P : Program) (ops : Array Oper) (C : World → Prop) (o : Oper) (v : Value) (a : Act) : Prop :=
  (Region.wanted o (yielded ops a.tmps) = true ∧ ∀ w, C w → (execOp a.eval o).run P w = .ok (.value v) w) ∨
  (Region.wanted o (yielded ops a.tmps) = false ∧ v = undef)
theorem YieldsC.of_same {o : Oper} {v : Value} {a a' : Act} (hy : YieldsC P ops C o v a) (he : execOp a'.eval o = execOp a.eval o)
    (hw : Region.wanted o (yielded ops a'.tmps) = Region.wanted o (yielded ops a.tmps)) : YieldsC P ops C o v a' := by
  unfold YieldsC at *
  rw [he, hw]
  exact hy
theorem YieldsC.wpOp {Q : Exit → Act → World → Prop} {i : Nat} {o : Oper} {v : Value} {a : Act} (hi : ops[i]? = some o) (hy : YieldsC P ops C o v a)
    {K : Act → World → Prop} {w : World} (hC : C w) (h : K (a.put o.dst v) w) : wpOp P ops Q i K a w := by
  unfold Go.wpOp
  simp only [hi]
  rcases hy with ⟨hw, hv⟩ | ⟨hw, rfl⟩
  · simp only [hw, if_true, Oper.wp, hv w hC, Oper.upon]; exact .inl h
  · simp only [hw, Bool.false_eq_true, if_false]; exact h
theorem wpOp_putC {Q : Exit → Act → World → Prop} {j : Nat} {oi oj : Oper} {v : Value} (hj : ops[j]? = some oj) (hap : oi.apart ops oj = true)
    (hsi : ∀ cs b, oi.op ≠ .select cs b) (hsj : ∀ cs b, oj.op ≠ .select cs b)
    (hQ : ∀ c a w, Q (.panic c) (a.put oi.dst v) w → Q (.panic c) a w) {K : Act → World → Prop} {a : Act} {w : World}
    (hy : YieldsC P ops C oi v a) (h : wpOp P ops Q j K (a.put oi.dst v) w) :
    wpOp P ops Q j (fun a' w' => YieldsC P ops C oi v a' ∧ K (a'.put oi.dst v) w') a w := by
  obtain ⟨h1, h2, h3⟩ := Oper.apart_spec hap
  have keep : ∀ (a : Act), YieldsC P ops C oi v a → ∀ u, YieldsC P ops C oi v (a.put oj.dst u) := fun a hy u =>
    hy.of_same (execOp_put oi hsi a oj.dst u h3) (wanted_put oi a oj.dst u h3)
  have keepD : ∀ d, YieldsC P ops C oi v { a with defers := d :: a.defers } := fun d => hy.of_same rfl rfl
  unfold wpOp at *
  simp only [hj] at *
  rw [wanted_put oj a oi.dst v h1] at h
  split
  · rename_i hw
    simp only [hw, if_true] at h
    rcases h with h | ⟨hasks, hlets⟩
    case inr => exact .inr ⟨by unfold Oper.asks at *; rw [execOp_put oj hsj a oi.dst v h1] at hasks; exact hasks, hlets⟩
    refine .inl ?_
    unfold Oper.wp at *
    rw [execOp_put oj hsj a oi.dst v h1] at h
    generalize (execOp a.eval oj).run P w = r at *
    cases r with
    | ok n w' =>
      cases n <;> simp only [Oper.upon] at h ⊢
      case value u => exact ⟨keep a hy u, by rw [← Act.put_comm a v u h2]; exact h⟩
      case skip => exact ⟨keep a hy _, by rw [← Act.put_comm a v undef h2]; exact h⟩
      case defer d =>
        refine ⟨keep _ (keepD d) _, ?_⟩
        rw [← Act.put_comm _ v undef h2, ← Act.put_defers]
        exact h
      case enter f args =>
        refine Calls.mono h fun e w'' he => ?_
        cases e with
        | returned u => exact ⟨keep a hy u, by rw [← Act.put_comm a v u h2]; exact he⟩
        | panicked c => exact hQ _ _ _ he
        | outgrown => exact he
      case row row args => exact Rows.mono h fun u w'' he => ⟨keep a hy u, by rw [← Act.put_comm a v u h2]; exact he⟩
    | halt x w' =>
      cases x <;> simp only [Oper.upon] at h ⊢
      case panic u => exact hQ _ _ _ h
  · rename_i hw
    simp only [hw] at h
    exact ⟨keep a hy _, by rw [← Act.put_comm a v undef h2]; exact h⟩
theorem wpAnyC_first {Q : Exit → Act → World → Prop} {i : Nat} {oi : Oper} {v : Value} (hi : ops[i]? = some oi) (hsel : ∀ (j : Nat) (o : Oper) cs b, ops[j]? = some o → o.op ≠ .select cs b)
    (hQ : ∀ c a w, Q (.panic c) (a.put oi.dst v) w → Q (.panic c) a w) :
    ∀ (fuel : Nat) (s : Array Bool) (a : Act) (w : World),
      (∀ j oj, ops[j]? = some oj → j ≠ i → s.getD j true = false → (∀ e ∈ oj.after, Region.binds md e = true → e.on ≠ i) → oi.apart ops oj = true) →
      i ∈ Region.ready md ops s → YieldsC P ops C oi v a →
      wpAnyC P md ops C Q fuel (s.setIfInBounds i true) (a.put oi.dst v) w → wpAnyC P md ops C Q (fuel + 1) s a w := by
  intro fuel
  induction fuel with
  | zero =>
    intro s a w _ hr hy H
    refine ⟨H.cls, fun h => (by rw [h] at hr; cases hr), fun j hj => ?_⟩
    by_cases hji : j = i
    · subst hji; exact hy.wpOp hi H.cls H
    · have := ready_mono hj hji
      rw [H.2.1] at this
      cases this
  | succ fuel ih =>
    intro s a w hfree hr hy H
    refine ⟨H.cls, fun h => (by rw [h] at hr; cases hr), fun j hj => ?_⟩
    by_cases hji : j = i
    · subst hji; exact hy.wpOp hi H.cls H
    · have h1 := H.2.2 j (ready_mono hj hji)
      obtain ⟨hjun, oj, hoj, hall⟩ := mem_ready.1 hj
      have hnot : ∀ e ∈ oj.after, Region.binds md e = true → e.on ≠ i := fun e he hb heq => by
        have h1 := hall e he hb
        rw [heq, getD_both (mem_ready.1 hr).1] at h1
        cases h1
      have h2 := wpOp_putC hoj (hfree j oj hoj hji hjun hnot) (fun cs b => hsel i oi cs b hi) (fun cs b => hsel j oj cs b hoj) hQ hy h1
      have hfree' : ∀ k ok, ops[k]? = some ok → k ≠ i → (s.setIfInBounds j true).getD k true = false →
          (∀ e ∈ ok.after, Region.binds md e = true → e.on ≠ i) → oi.apart ops ok = true := fun k ok hk hki hun hno => by
        refine hfree k ok hk hki ?_ hno
        by_cases hjk : j = k
        · subst hjk; exact hjun
        · rw [getD_set_ne true hjk] at hun; exact hun
      refine wpOp_mono (fun a' w' h3 => ih (s.setIfInBounds j true) a' w' hfree' (ready_mono hr (Ne.symm hji)) h3.1 ?_) h2
      rw [Array.setIfInBounds_comm _ _ hji]
      exact h3.2
def wpSeqC (P : Program) (ops : Array Oper) (C : World → Prop) (Q : Exit → Act → World → Prop) : List Nat → Act → World → Prop
  | [], a, w => C w ∧ Q .normal a w
  | i :: l, a, w => C w ∧ wpOp P ops Q i (wpSeqC P ops C Q l) a w
def wpHeadC (P : Program) (ops : Array Oper) (C : World → Prop) (K : Act → Prop) : List Nat → Act → Prop
  | [], a => K a
  | i :: l, a => ∃ o v, ops[i]? = some o ∧ YieldsC P ops C o v a ∧ wpHeadC P ops C K l (a.put o.dst v)
def seqIB (md : Region.Mode) (ops : Array Oper) : List Nat → Array Bool → Bool
  | [], s => (Region.ready md ops s).isEmpty
  | i :: t, s => decide (Region.ready md ops s = [i]) && seqIB md ops t (s.setIfInBounds i true)
def schedB (md : Region.Mode) (ops : Array Oper) : List Nat → List Nat → Array Bool → Bool
  | [], t, s => seqIB md ops t s
  | i :: h, t, s => (Region.ready md ops s).contains i && Region.free md ops s i && schedB md ops h t (s.setIfInBounds i true)
theorem wpAnyC_seq {Q : Exit → Act → World → Prop} : ∀ (t : List Nat) (s : Array Bool) (a : Act) (w : World), seqIB md ops t s = true → wpSeqC P ops C Q t a w → wpAnyC P md ops C Q t.length s a w
  | [], s, a, w, hB, h => ⟨h.1, by simpa [seqIB] using hB, h.2⟩
  | i :: t, s, a, w, hB, h => by
    simp only [seqIB, Bool.and_eq_true, decide_eq_true_eq] at hB
    refine ⟨h.1, fun h1 => (by rw [hB.1] at h1; cases h1), fun j hj => ?_⟩
    rw [hB.1] at hj
    have hji : j = i := by simpa using hj
    subst hji
    exact wpOp_mono (fun a' w' h' => wpAnyC_seq t _ a' w' hB.2 h') h.2
theorem wpAnyC_head {Q : Exit → Act → World → Prop} (hsel : Region.noSelect ops = true) (hQ : ∀ (o : Oper) v c a w, Q (.panic c) (a.put o.dst v) w → Q (.panic c) a w) : ∀ (h t : List Nat) (s : Array Bool) (a : Act) (w : World), schedB md ops h t s = true → wpHeadC P ops C (fun a' => wpSeqC P ops C Q t a' w) h a →
    wpAnyC P md ops C Q (h.length + t.length) s a w
  | [], t, s, a, w, hB, h => by
    rw [List.length_nil, Nat.zero_add]; exact wpAnyC_seq t s a w hB h
  | i :: hd, t, s, a, w, hB, h => by
    obtain ⟨o, v, h0, hy, hK⟩ := h
    simp only [schedB, Bool.and_eq_true] at hB
    have hr : i ∈ Region.ready md ops s := by simpa using hB.1.1
    rw [List.length_cons, Nat.add_right_comm]
    exact wpAnyC_first h0 (Region.noSelect_spec hsel) (hQ o v) _ s a w (Region.free_spec h0 hB.1.2) hr hy (wpAnyC_head hsel hQ hd t _ _ w hB.2 hK)
theorem wp_region_sched {id : Nat} {Q : Exit → Act → World → Prop} {a : Act} {w : World} {h t : List Nat} (hm : P.follows .mixedOrders = true) (hsel : Region.noSelect ops = true) (hlen : h.length + t.length = ops.size) (hB : schedB .any ops h t (Array.replicate ops.size false) = true)
    (hQ : ∀ (o : Oper) v c a w, Q (.panic c) (a.put o.dst v) w → Q (.panic c) a w) (hh : wpHeadC P ops C (fun a' => wpSeqC P ops C Q t a' { w with drawn := w.drawn + 1 }) h a) : (Code.region id ops true).wp P Q a w := by
  refine wp_region_any hm ?_
  have := wpAnyC_head (md := .any) hsel hQ h t _ a _ hB hh
  rw [hlen] at this
  exact wpAny_of_C _ _ _ _ this
end
end Go.Proofs.YtgkicojmgokinaaGreatDoor.Ab
namespace Go.Proofs.YtgkicojmgokinaaGreatDoor.Ab
open Go Go.RowKit
set_option linter.unusedVariables false
set_option linter.unusedSimpArgs false
section
variable {P : Program} {ops : Array Oper} {md : Region.Mode} {C : World → Prop}
def behindB (md : Region.Mode) (ops : Array Oper) (n : Nat) : Bool :=
  (List.range ops.size).all fun t => Nat.blt t n || (Region.waitsFor md ops t (n - 1) || (Nat.blt n t && Region.waitsFor md ops t (t - 1)))
theorem sink_done {n : Nat} {listed : Array Bool} (hs : Region.sinkB md ops n = true) (hl : listed.getD n false = true) (hcl : ∀ j oj, ops[j]? = some oj → listed.getD j false = true → ∀ e ∈ oj.after, Region.binds md e = true → listed.getD e.on false = true) :
    ∀ (d i : Nat), n - i = d → i < n → listed.getD i false = true := by
  intro d
  induction d using Nat.strongRecOn with
  | _ d ih =>
    intro i hd hi
    have h1 := List.all_eq_true.1 hs i (List.mem_range.2 hi)
    obtain ⟨j, hj, hj2⟩ := List.any_eq_true.1 h1
    simp only [Bool.and_eq_true, decide_eq_true_eq] at hj2
    obtain ⟨oj, hoj, e, he, hb, hon⟩ := Region.waitsFor_spec hj2.2
    have hjle : j ≤ n := by have := List.mem_range.1 hj; omega
    have hjd : listed.getD j false = true := by
      by_cases hjn : j = n
      · rw [hjn]; exact hl
      · exact ih (n - j) (by omega) j rfl (by omega)
    have := hcl j oj hoj hjd e he hb
    rwa [hon] at this
theorem behind_waits {n : Nat} {listed : Array Bool} (h0 : 0 < n) (hs : Region.sinkB md ops (n - 1) = true) (hc : behindB md ops n = true) (inv : HeadInv md ops n listed) (i : Nat) (hi : i < n) (hun : listed.getD i true = false) (t : Nat) (ht : n ≤ t) : t ∉ Region.ready md ops listed := by
  intro hr
  obtain ⟨_, ot, hot, hall⟩ := mem_ready.1 hr
  have htlt : t < ops.size := (Array.getElem?_eq_some_iff.1 hot).1
  have h1 := List.all_eq_true.1 hc t (List.mem_range.2 htlt)
  simp only [Bool.or_eq_true, Bool.and_eq_true] at h1
  rcases h1 with h1 | h1 | ⟨h1, h2⟩
  · have : t < n := Nat.lt_of_succ_le (Nat.le_of_ble_eq_true h1)
    omega
  · obtain ⟨o', ho', e, he, hb, hon⟩ := Region.waitsFor_spec h1
    have : o' = ot := Option.some.inj (ho'.symm.trans hot)
    subst this
    have h2 := hall e he hb
    rw [hon] at h2
    rcases Nat.lt_or_ge i (n - 1) with hlt | hge
    · have := sink_done hs h2 inv.closed _ i rfl hlt
      rw [getD_both hun] at this; cases this
    · have : i = n - 1 := by omega
      rw [← this, getD_both hun] at h2; cases h2
  · have hlt : n < t := Nat.lt_of_succ_le (Nat.le_of_ble_eq_true h1)
    obtain ⟨o', ho', e, he, hb, hon⟩ := Region.waitsFor_spec h2
    have : o' = ot := Option.some.inj (ho'.symm.trans hot)
    subst this
    have h3 := hall e he hb
    rw [hon, getD_both (inv.tail (t - 1) (by omega) (by omega))] at h3
    cases h3
theorem anyH_firstB {n i : Nat} {oi : Oper} {v : Value} {L : Array Bool → Act → Prop} (hi : ops[i]? = some oi) (hsel : ∀ (j : Nat) (o : Oper) cs b, ops[j]? = some o → o.op ≠ .select cs b)
    (h0 : 0 < n) (hs : Region.sinkB md ops (n - 1) = true) (hc : behindB md ops n = true) (hin : i < n) (hdone : ∀ s a, L s a → ∀ j ∈ Region.ready md ops s, n ≤ j) (f : Nat) :
    ∀ (s : Array Bool) (a : Act), HeadInv md ops n s →
      (∀ j oj, ops[j]? = some oj → j ≠ i → s.getD j true = false → (∀ e ∈ oj.after, Region.binds md e = true → e.on ≠ i) → oi.apart ops oj = true) →
      i ∈ Region.ready md ops s → YieldsIn P ops C oi v a → anyH P md ops C n L f (s.setIfInBounds i true) (a.put oi.dst v) → anyH P md ops C n L (f + 1) s a := by
  induction f with
  | zero =>
    intro s a inv _ hr hy hL
    refine ⟨fun h => (by rw [h] at hr; cases hr), fun j hj => ?_⟩
    by_cases hji : j = i
    · subst hji; exact ⟨hin, hy.qOp hi hL⟩
    · have h1 := hdone _ _ hL j (ready_mono hj hji)
      exact absurd hj (behind_waits h0 hs hc inv i hin (mem_ready.1 hr).1 j h1)
  | succ f ih =>
    intro s a inv hfree hr hy hA
    refine ⟨fun h => (by rw [h] at hr; cases hr), fun j hj => ?_⟩
    have hjn : j < n := Nat.lt_of_not_le fun h => behind_waits h0 hs hc inv i hin (mem_ready.1 hr).1 j h hj
    by_cases hji : j = i
    · subst hji; exact ⟨hin, hy.qOp hi hA⟩
    · have h1 := (hA.2 j (ready_mono hj hji)).2
      obtain ⟨hjs, oj, hoj, hall⟩ := mem_ready.1 hj
      have hno : ∀ e ∈ oj.after, Region.binds md e = true → e.on ≠ i := fun e he hb heq => by
        have h2 := hall e he hb
        rw [heq, getD_both (mem_ready.1 hr).1] at h2
        cases h2
      refine ⟨hjn, qOp_mono (fun a' h3 => ih _ a' (inv.set hj hjn) (fun k ok hk hki hks hke => hfree k ok hk hki ?_ hke) (ready_mono hr (Ne.symm hji)) h3.1 ?_) (qOp_put hoj (hfree j oj hoj hji hjs hno) (fun cs b => hsel i oi cs b hi) (fun cs b => hsel j oj cs b hoj) hy h1)⟩
      · by_cases hjk : j = k
        · subst hjk; exact hjs
        · rwa [getD_set_ne true hjk] at hks
      · rw [Array.setIfInBounds_comm _ _ hji]; exact h3.2
def lexSched (md : Region.Mode) (ops : Array Oper) (n : Nat) (h t : List Nat) : Nat → Nat → Array Bool → Bool
  | 0, k, s => (Region.ready md ops s).all (fun j => Nat.ble n j) && schedB md ops h t s
  | f + 1, k, s => (Region.ready md ops s).contains k && Region.free md ops s k && lexSched md ops n h t f (k + 1) (s.setIfInBounds k true)
theorem anyH_lexB {n : Nat} {h t : List Nat} {K : Act → Prop} (hsel : Region.noSelect ops = true) (h0 : 0 < n) (hs : Region.sinkB md ops (n - 1) = true) (hc : behindB md ops n = true) :
    ∀ (l : List Oper) (k : Nat) (s : Array Bool) (a : Act), (∀ j, j < l.length → l[j]? = ops[k + j]?) → k + l.length = n → HeadInv md ops n s → lexSched md ops n h t l.length k s = true → wpQuiet P ops C K l a →
      anyH P md ops C n (fun s' a' => (∀ j ∈ Region.ready md ops s', n ≤ j) ∧ schedB md ops h t s' = true ∧ K a') l.length s a
  | [], k, s, a, _, hk, _, hB, hh => by
    simp only [List.length_nil, lexSched, Bool.and_eq_true] at hB
    exact ⟨fun j hj => Nat.le_of_ble_eq_true (List.all_eq_true.1 hB.1 j hj), hB.2, hh⟩
  | o :: l, k, s, a, hl, hk, inv, hB, hh => by
    have e0 : ops[k]? = some o := by simpa using (hl 0 (by simp)).symm
    simp only [List.length_cons, lexSched, Bool.and_eq_true] at hB
    simp only [List.length_cons] at hk
    have hr : k ∈ Region.ready md ops s := by simpa using hB.1.1
    obtain ⟨v, hy, hK⟩ := yieldsIn_of_qOp (P := P) (C := C) (K := wpQuiet P ops C K l) e0 (by unfold qOp; simp only [e0]; exact hh)
    exact anyH_firstB e0 (Region.noSelect_spec hsel) h0 hs hc (by omega) (fun s' a' hL => hL.1) l.length s a inv (Region.free_spec e0 hB.1.2) hr hy
      (anyH_lexB hsel h0 hs hc l (k + 1) _ _ (fun j hj => by have := hl (j + 1) (by simp; omega); simpa [Nat.add_assoc, Nat.add_comm 1 j] using this) (by omega) (inv.set hr (by omega)) hB.2 hK)
def mixB (ops : Array Oper) (n : Nat) (h t : List Nat) : Bool :=
  Region.noSelect ops && (Nat.blt 0 n && (Nat.beq (n + (h.length + t.length)) ops.size && (Region.sinkB .any ops (n - 1) && (behindB .any ops n && lexSched .any ops n h t n 0 (Array.replicate ops.size false)))))
theorem wp_region_mix {id : Nat} {Q : Exit → Act → World → Prop} {a : Act} {w : World} {l : List Oper} {h t : List Nat} {D : World → World → Prop} (n : Nat) (hm : P.follows .mixedOrders = true) (hB : mixB l.toArray n h t = true) (hC : C { w with drawn := w.drawn + 1 })
    (hQ : ∀ (o : Oper) v c a w, Q (.panic c) (a.put o.dst v) w → Q (.panic c) a w)
    (hh : wpQuiet P l.toArray C (fun a' => ∀ w', C w' → wpHeadC P l.toArray (D w') (fun a2 => wpSeqC P l.toArray (D w') Q t a2 w') h a') (l.take n) a) : (Code.region id l.toArray true).wp P Q a w := by
  simp only [mixB, Bool.and_eq_true] at hB
  obtain ⟨hsel, h0, hlen, hs, hc, hlex⟩ := hB
  have h0' : 0 < n := Nat.lt_of_succ_le (Nat.le_of_ble_eq_true h0)
  have hlen' : n + (h.length + t.length) = l.length := by simpa using Nat.eq_of_beq_eq_true hlen
  have htl : (l.take n).length = n := by simp; omega
  have inv0 : HeadInv .any l.toArray n (Array.replicate l.toArray.size false) :=
    ⟨by simp, fun j oj _ hl => (by rw [getD_replicate_false] at hl; cases hl), fun t _ ht => getD_in (by simpa using ht) (getD_replicate_false _ _)⟩
  have H := anyH_lexB (md := .any) (h := h) (t := t) hsel h0' hs hc (l.take n) 0 _ a (fun j hj => by
    rw [htl] at hj
    simp [hj]) (by simpa using htl) inv0 (by rw [htl]; exact hlex) hh
  refine wp_region_any hm ?_
  have := wpAny_of_anyH (Q := Q) (g := h.length + t.length) (fun s a' w' hw' hL => wpAny_of_C _ _ _ _ (wpAnyC_head (C := D w') hsel hQ h t s a' w' hL.2.1 (hL.2.2 w' hw'))) _ _ _ _ hC H
  rw [htl, hlen', show l.length = l.toArray.size by simp] at this
  exact this
end
end Go.Proofs.YtgkicojmgokinaaGreatDoor.Ab
namespace Go.Proofs.YtgkicojmgokinaaGreatDoor.Ab
open Go Go.RowKit
set_option linter.unusedVariables false
set_option linter.unusedSimpArgs false
section
variable {P : Program} {ops : Array Oper} {md : Region.Mode} {C : World → Prop}
def wpAnyL (P : Program) (md : Region.Mode) (ops : Array Oper) (C : World → Prop) (Q : Exit → Act → World → Prop) (L : Array Bool → Act → World → Prop) : Nat → Array Bool → Act → World → Prop
  | 0, s, a, w => C w ∧ L s a w
  | f + 1, s, a, w => C w ∧ Region.ready md ops s ≠ [] ∧ ∀ i ∈ Region.ready md ops s, wpOp P ops Q i (wpAnyL P md ops C Q L f (s.setIfInBounds i true)) a w
theorem wpAnyL.cls {Q : Exit → Act → World → Prop} {L : Array Bool → Act → World → Prop} {f : Nat} {s : Array Bool} {a : Act} {w : World} (h : wpAnyL P md ops C Q L f s a w) : C w := by
  cases f <;> exact h.1
theorem wpAny_of_L {Q : Exit → Act → World → Prop} {L : Array Bool → Act → World → Prop} {g : Nat} (hL : ∀ s a w, L s a w → wpAny P md ops Q g s a w) : ∀ (f : Nat) (s : Array Bool) (a : Act) (w : World), wpAnyL P md ops C Q L f s a w → wpAny P md ops Q (f + g) s a w
  | 0, s, a, w, h => by rw [Nat.zero_add]; exact hL _ _ _ h.2
  | f + 1, s, a, w, h => by
    rw [Nat.add_right_comm]
    exact ⟨fun h0 => absurd h0 h.2.1, fun i hi => wpOp_mono (fun a' w' h' => wpAny_of_L hL f _ a' w' h') (h.2.2 i hi)⟩
def anc (md : Region.Mode) (ops : Array Oper) (p1 : List Nat) (i : Nat) : Nat → Nat → Bool
  | 0, t => Region.waitsFor md ops t i
  | d + 1, t => Region.waitsFor md ops t i || p1.any fun j => Region.waitsFor md ops t j && anc md ops p1 i d j
def phaseB (md : Region.Mode) (ops : Array Oper) (p0 p1 : List Nat) : Bool :=
  (List.range ops.size).all fun t => p1.contains t || ((List.range ops.size).any (fun j => !p1.contains j && Region.waitsFor md ops t j) || p0.all fun i => anc md ops p1 i 6 t)
structure PInv (md : Region.Mode) (ops : Array Oper) (p1 : List Nat) (s : Array Bool) : Prop where
  closed : ∀ j oj, ops[j]? = some oj → s.getD j false = true → ∀ e ∈ oj.after, Region.binds md e = true → s.getD e.on false = true
  first : ∀ t, s.getD t false = true → t ∈ p1
theorem ready_lt {s : Array Bool} {i : Nat} (h : i ∈ Region.ready md ops s) : s.getD i true = false ∧ i < ops.size ∧ ∃ o, ops[i]? = some o ∧ ∀ e ∈ o.after, Region.binds md e = true → s.getD e.on false = true := by
  obtain ⟨h1, o, h2, h3⟩ := mem_ready.1 h
  exact ⟨h1, (Array.getElem?_eq_some_iff.1 h2).1, o, h2, h3⟩
theorem PInv.set {p1 : List Nat} {s : Array Bool} (h : PInv md ops p1 s) {i : Nat} (hr : i ∈ Region.ready md ops s) (hi : i ∈ p1) : PInv md ops p1 (s.setIfInBounds i true) := by
  obtain ⟨h1, h2, oi, hoi, hall⟩ := ready_lt hr
  have mono : ∀ j, s.getD j false = true → (s.setIfInBounds i true).getD j false = true := by
    intro j hj
    by_cases hji : i = j
    · subst hji
      rw [getD_both h1] at hj; cases hj
    · rw [getD_set_ne false hji]; exact hj
  refine ⟨fun j oj hoj hj e he hb => ?_, fun t ht => ?_⟩
  · by_cases hji : i = j
    · subst hji
      rw [hoi] at hoj; cases hoj
      exact mono _ (hall e he hb)
    · rw [getD_set_ne false hji] at hj
      exact mono _ (h.closed j oj hoj hj e he hb)
  · by_cases hti : i = t
    · subst hti; exact hi
    · rw [getD_set_ne false hti] at ht
      exact h.first t ht
theorem phase_waits {p0 p1 : List Nat} {s : Array Bool} (hp : phaseB md ops p0 p1 = true) (inv : PInv md ops p1 s) {i : Nat} (hi : i ∈ p0) (hun : s.getD i true = false) {t : Nat} (ht : t ∉ p1) : t ∉ Region.ready md ops s := by
  intro hr
  obtain ⟨_, hlt, ot, hot, hall⟩ := ready_lt hr
  have listed : ∀ j, Region.waitsFor md ops t j = true → s.getD j false = true := by
    intro j hj
    obtain ⟨o', ho', e, he, hb, hon⟩ := Region.waitsFor_spec hj
    rw [hot] at ho'; cases ho'
    have := hall e he hb
    rwa [hon] at this
  have h1 := List.all_eq_true.1 hp t (List.mem_range.2 hlt)
  simp only [Bool.or_eq_true] at h1
  rcases h1 with h1 | h1 | h1
  · exact ht (by simpa using h1)
  · obtain ⟨j, hj, hj2⟩ := List.any_eq_true.1 h1
    simp only [Bool.and_eq_true, Bool.not_eq_true'] at hj2
    have := inv.first j (listed j hj2.2)
    have hc : p1.contains j = true := by simpa using this
    rw [hc] at hj2; cases hj2.1
  · have h2 := List.all_eq_true.1 h1 i hi
    have no : s.getD i false = true → False := fun h => by rw [getD_both hun] at h; cases h
    have deep : ∀ (d j : Nat), s.getD j false = true → anc md ops p1 i d j = true → False := by
      intro d
      induction d with
      | zero =>
        intro j hj ha
        obtain ⟨oj, hoj, e, he, hb, hon⟩ := Region.waitsFor_spec ha
        have := inv.closed j oj hoj hj e he hb
        rw [hon] at this; exact no this
      | succ d ih =>
        intro j hj ha
        simp only [anc, Bool.or_eq_true] at ha
        rcases ha with ha | ha
        · obtain ⟨oj, hoj, e, he, hb, hon⟩ := Region.waitsFor_spec ha
          have := inv.closed j oj hoj hj e he hb
          rw [hon] at this; exact no this
        · obtain ⟨k, _, hk⟩ := List.any_eq_true.1 ha
          simp only [Bool.and_eq_true] at hk
          obtain ⟨oj, hoj, e, he, hb, hon⟩ := Region.waitsFor_spec hk.1
          have := inv.closed j oj hoj hj e he hb
          rw [hon] at this
          exact ih k this hk.2
    simp only [anc, Bool.or_eq_true] at h2
    rcases h2 with h2 | h2
    · exact no (listed i h2)
    · obtain ⟨j, _, hj2⟩ := List.any_eq_true.1 h2
      simp only [Bool.and_eq_true] at hj2
      exact deep 5 j (listed j hj2.1) (by simp only [anc, Bool.or_eq_true]; simpa using hj2.2)
def Done1 (p1 : List Nat) (s : Array Bool) : Prop := ∀ j ∈ p1, s.getD j true = true
theorem wpAnyL_first {Q : Exit → Act → World → Prop} {L : Array Bool → Act → World → Prop} {p0 p1 : List Nat} {i : Nat} {oi : Oper} {v : Value} (hi : ops[i]? = some oi) (hip : i ∈ p0) (hp : phaseB md ops p0 p1 = true) (hsel : ∀ (j : Nat) (o : Oper) cs b, ops[j]? = some o → o.op ≠ .select cs b)
    (hQ : ∀ c a w, Q (.panic c) (a.put oi.dst v) w → Q (.panic c) a w) (hL : ∀ s a w, L s a w → Done1 p1 s) :
    ∀ (fuel : Nat) (s : Array Bool) (a : Act) (w : World), PInv md ops p1 s →
      (∀ j oj, ops[j]? = some oj → j ≠ i → s.getD j true = false → (∀ e ∈ oj.after, Region.binds md e = true → e.on ≠ i) → oi.apart ops oj = true) →
      i ∈ Region.ready md ops s → YieldsC P ops C oi v a →
      wpAnyL P md ops C Q L fuel (s.setIfInBounds i true) (a.put oi.dst v) w → wpAnyL P md ops C Q L (fuel + 1) s a w := by
  intro fuel
  induction fuel with
  | zero =>
    intro s a w inv _ hr hy H
    refine ⟨H.cls, fun h => (by rw [h] at hr; cases hr), fun j hj => ?_⟩
    by_cases hji : j = i
    · subst hji; exact hy.wpOp (Q := Q) hi H.cls H
    · exfalso
      by_cases hjp : j ∈ p1
      · have h1 := hL _ _ _ H.2 j hjp
        rw [getD_set_ne true (Ne.symm hji), (mem_ready.1 hj).1] at h1; cases h1
      · exact phase_waits hp inv hip (mem_ready.1 hr).1 hjp hj
  | succ fuel ih =>
    intro s a w inv hfree hr hy H
    refine ⟨H.cls, fun h => (by rw [h] at hr; cases hr), fun j hj => ?_⟩
    by_cases hji : j = i
    · subst hji; exact hy.wpOp (Q := Q) hi H.cls H
    · have hjp : j ∈ p1 := Classical.byContradiction fun h => phase_waits hp inv hip (mem_ready.1 hr).1 h hj
      have h1 := H.2.2 j (ready_mono hj hji)
      obtain ⟨hjun, oj, hoj, hall⟩ := mem_ready.1 hj
      have hnot : ∀ e ∈ oj.after, Region.binds md e = true → e.on ≠ i := fun e he hb heq => by
        have h1 := hall e he hb
        rw [heq, getD_both (mem_ready.1 hr).1] at h1
        cases h1
      have h2 := wpOp_putC hoj (hfree j oj hoj hji hjun hnot) (fun cs b => hsel i oi cs b hi) (fun cs b => hsel j oj cs b hoj) hQ hy h1
      have hfree' : ∀ k ok, ops[k]? = some ok → k ≠ i → (s.setIfInBounds j true).getD k true = false →
          (∀ e ∈ ok.after, Region.binds md e = true → e.on ≠ i) → oi.apart ops ok = true := fun k ok hk hki hun hno => by
        refine hfree k ok hk hki ?_ hno
        by_cases hjk : j = k
        · subst hjk; exact hjun
        · rw [getD_set_ne true hjk] at hun; exact hun
      refine wpOp_mono (fun a' w' h3 => ih (s.setIfInBounds j true) a' w' (inv.set hj hjp) hfree' (ready_mono hr (Ne.symm hji)) h3.1 ?_) h2
      rw [Array.setIfInBounds_comm _ _ hji]
      exact h3.2
def wpSeqL (P : Program) (ops : Array Oper) (C : World → Prop) (Q : Exit → Act → World → Prop) (K : Act → World → Prop) : List Nat → Act → World → Prop
  | [], a, w => C w ∧ K a w
  | i :: l, a, w => C w ∧ wpOp P ops Q i (wpSeqL P ops C Q K l) a w
def wpSeq2 (P : Program) (ops : Array Oper) (Q : Exit → Act → World → Prop) : List Nat → Act → World → Prop
  | [], a, w => Q .normal a w
  | i :: l, a, w => wpOp P ops Q i (wpSeq2 P ops Q l) a w
def tailB (md : Region.Mode) (ops : Array Oper) (p1 t2 : List Nat) : List Nat → Array Bool → Bool
  | [], s => p1.all (fun j => s.getD j true) && seqIB md ops t2 s
  | i :: t, s => decide (Region.ready md ops s = [i]) && (p1.contains i && tailB md ops p1 t2 t (s.setIfInBounds i true))
def twoB (md : Region.Mode) (ops : Array Oper) (p0 p1 t1 t2 : List Nat) : List Nat → Array Bool → Bool
  | [], s => tailB md ops p1 t2 t1 s
  | i :: h, s => (Region.ready md ops s).contains i && (Region.free md ops s i && ((p0.contains i && p1.contains i) && twoB md ops p0 p1 t1 t2 h (s.setIfInBounds i true)))
theorem wpAny_seq2 {Q : Exit → Act → World → Prop} : ∀ (t : List Nat) (s : Array Bool) (a : Act) (w : World), seqIB md ops t s = true → wpSeq2 P ops Q t a w → wpAny P md ops Q t.length s a w
  | [], s, a, w, hB, h => ⟨by simpa [seqIB] using hB, h⟩
  | i :: t, s, a, w, hB, h => by
    simp only [seqIB, Bool.and_eq_true, decide_eq_true_eq] at hB
    refine ⟨fun h1 => (by rw [hB.1] at h1; cases h1), fun j hj => ?_⟩
    rw [hB.1] at hj
    have hji : j = i := by simpa using hj
    subst hji
    exact wpOp_mono (fun a' w' h' => wpAny_seq2 t _ a' w' hB.2 h') h
def Rest (P : Program) (md : Region.Mode) (ops : Array Oper) (Q : Exit → Act → World → Prop) (p1 t2 : List Nat) (s : Array Bool) (a : Act) (w : World) : Prop := Done1 p1 s ∧ seqIB md ops t2 s = true ∧ wpSeq2 P ops Q t2 a w
theorem wpAnyL_tail {Q : Exit → Act → World → Prop} {p1 t2 : List Nat} : ∀ (t : List Nat) (s : Array Bool) (a : Act) (w : World), tailB md ops p1 t2 t s = true → wpSeqL P ops C Q (wpSeq2 P ops Q t2) t a w → wpAnyL P md ops C Q (Rest P md ops Q p1 t2) t.length s a w
  | [], s, a, w, hB, h => by
    simp only [tailB, Bool.and_eq_true] at hB
    exact ⟨h.1, fun j hj => List.all_eq_true.1 hB.1 j hj, hB.2, h.2⟩
  | i :: t, s, a, w, hB, h => by
    simp only [tailB, Bool.and_eq_true, decide_eq_true_eq] at hB
    refine ⟨h.1, fun h1 => (by rw [hB.1] at h1; cases h1), fun j hj => ?_⟩
    rw [hB.1] at hj
    have hji : j = i := by simpa using hj
    subst hji
    exact wpOp_mono (fun a' w' h' => wpAnyL_tail t _ a' w' hB.2.2 h') h.2
theorem wpAnyL_head {Q : Exit → Act → World → Prop} {p0 p1 t1 t2 : List Nat} (hsel : Region.noSelect ops = true) (hp : phaseB md ops p0 p1 = true) (hQ : ∀ (o : Oper) v c a w, Q (.panic c) (a.put o.dst v) w → Q (.panic c) a w) : ∀ (h : List Nat) (s : Array Bool) (a : Act) (w : World), PInv md ops p1 s → twoB md ops p0 p1 t1 t2 h s = true →
    wpHeadC P ops C (fun a' => wpSeqL P ops C Q (wpSeq2 P ops Q t2) t1 a' w) h a → wpAnyL P md ops C Q (Rest P md ops Q p1 t2) (h.length + t1.length) s a w
  | [], s, a, w, inv, hB, h => by
    rw [List.length_nil, Nat.zero_add]; exact wpAnyL_tail t1 s a w hB h
  | i :: hd, s, a, w, inv, hB, h => by
    obtain ⟨o, v, h0, hy, hK⟩ := h
    simp only [twoB, Bool.and_eq_true] at hB
    have hr : i ∈ Region.ready md ops s := by simpa using hB.1
    have hip : i ∈ p0 := by simpa using hB.2.2.1.1
    have hip1 : i ∈ p1 := by simpa using hB.2.2.1.2
    rw [List.length_cons, Nat.add_right_comm]
    exact wpAnyL_first h0 hip hp (Region.noSelect_spec hsel) (hQ o v) (fun _ _ _ h => h.1) _ s a w inv (Region.free_spec h0 hB.2.1) hr hy (wpAnyL_head hsel hp hQ hd _ _ w (inv.set hr hip1) hB.2.2.2 hK)
theorem wpAnyC_of_any {Q : Exit → Act → World → Prop} : ∀ (f : Nat) (s : Array Bool) (a : Act) (w : World), wpAny P md ops Q f s a w → wpAnyC P md ops (fun _ => True) Q f s a w
  | 0, s, a, w, h => ⟨trivial, h⟩
  | f + 1, s, a, w, h => ⟨trivial, h.1, fun i hi => wpOp_mono (fun a' w' h' => wpAnyC_of_any f _ a' w' h') (h.2 i hi)⟩
def preB (md : Region.Mode) (ops : Array Oper) (p0 p1 h t1 t2 : List Nat) : List Nat → Array Bool → Bool
  | [], s => twoB md ops p0 p1 t1 t2 h s
  | i :: r, s => (Region.ready md ops s).contains i && (Region.free md ops s i && (p1.contains i && preB md ops p0 p1 h t1 t2 r (s.setIfInBounds i true)))
theorem wpAny_pre {Q : Exit → Act → World → Prop} {p0 p1 h t1 t2 : List Nat} {K : Act → Prop} {g : Nat} {w : World} (hsel : Region.noSelect ops = true) (hQ : ∀ (o : Oper) v c a w, Q (.panic c) (a.put o.dst v) w → Q (.panic c) a w)
    (hK : ∀ s a, PInv md ops p1 s → twoB md ops p0 p1 t1 t2 h s = true → K a → wpAny P md ops Q g s a w) : ∀ (r : List Nat) (s : Array Bool) (a : Act), PInv md ops p1 s → preB md ops p0 p1 h t1 t2 r s = true → wpHeadC P ops (fun _ => True) K r a →
    wpAnyC P md ops (fun _ => True) Q (r.length + g) s a w
  | [], s, a, inv, hB, hh => by rw [List.length_nil, Nat.zero_add]; exact wpAnyC_of_any _ _ _ _ (hK s a inv hB hh)
  | i :: r, s, a, inv, hB, hh => by
    obtain ⟨o, v, h0, hy, hk⟩ := hh
    simp only [preB, Bool.and_eq_true] at hB
    have hr : i ∈ Region.ready md ops s := by simpa using hB.1
    have hip1 : i ∈ p1 := by simpa using hB.2.2.1
    rw [List.length_cons, Nat.add_right_comm]
    exact wpAnyC_first h0 (Region.noSelect_spec hsel) (hQ o v) _ s a w (Region.free_spec h0 hB.2.1) hr hy (wpAny_pre hsel hQ hK r _ _ (inv.set hr hip1) hB.2.2.2 hk)
def twoOK (ops : Array Oper) (r h t1 t2 : List Nat) : Bool :=
  Region.noSelect ops && (Nat.beq (r.length + (h.length + t1.length + t2.length)) ops.size && (phaseB .any ops (h ++ t1) (r ++ (h ++ t1)) && preB .any ops (h ++ t1) (r ++ (h ++ t1)) h t1 t2 r (Array.replicate ops.size false)))
theorem wp_region_two {id : Nat} {Q : Exit → Act → World → Prop} {a : Act} {w : World} {r h t1 t2 : List Nat} (hm : P.follows .mixedOrders = true) (hB : twoOK ops r h t1 t2 = true)
    (hQ : ∀ (o : Oper) v c a w, Q (.panic c) (a.put o.dst v) w → Q (.panic c) a w)
    (hh : wpHeadC P ops (fun _ => True) (fun a1 => wpHeadC P ops C (fun a' => wpSeqL P ops C Q (wpSeq2 P ops Q t2) t1 a' { w with drawn := w.drawn + 1 }) h a1) r a) : (Code.region id ops true).wp P Q a w := by
  simp only [twoOK, Bool.and_eq_true] at hB
  obtain ⟨hsel, hlen, hp, hB⟩ := hB
  refine wp_region_any hm ?_
  have inv : PInv .any ops (r ++ (h ++ t1)) (Array.replicate ops.size false) := ⟨fun j oj _ hl => (by rw [getD_replicate_false] at hl; cases hl), fun t ht => by rw [getD_replicate_false] at ht; cases ht⟩
  have := wpAny_of_C _ _ _ _ (wpAny_pre (md := .any) (g := h.length + t1.length + t2.length) (w := { w with drawn := w.drawn + 1 }) hsel hQ (fun s a inv hB hK =>
    wpAny_of_L (Q := Q) (g := t2.length) (fun s a w hL => wpAny_seq2 t2 s a w hL.2.1 hL.2.2) _ _ _ _ (wpAnyL_head (md := .any) hsel hp hQ h s a _ inv hB hK)) r _ a inv hB hh)
  rwa [Nat.eq_of_beq_eq_true hlen] at this
end
end Go.Proofs.YtgkicojmgokinaaGreatDoor.Ab
namespace Go.Proofs.YtgkicojmgokinaaGreatDoor.Ab
open Go Go.RowKit
set_option linter.unusedVariables false
set_option linter.unusedSimpArgs false
section
variable {P : Program} {ops : Array Oper} {md : Region.Mode}
def cls (C0 : World → Prop) (Cr : Nat → World → Prop) : Option Nat → World → Prop
  | none => C0
  | some r => Cr r
def ptrV (r : Nat) : Value := .pointer (some ⟨r, 0, none⟩)
def anyE (P : Program) (md : Region.Mode) (ops : Array Oper) (C0 : World → Prop) (Cr : Nat → World → Prop) (e : Nat) (oe : Oper) (L : Nat → Array Bool → Act → Prop) : Nat → Option Nat → Array Bool → Act → Prop
  | 0, none, _, _ => False
  | 0, some r, s, a => L r s a
  | f + 1, st, s, a => Region.ready md ops s ≠ [] ∧ ∀ i ∈ Region.ready md ops s, (i = e → st = none ∧ ∀ r, anyE P md ops C0 Cr e oe L f (some r) (s.setIfInBounds e true) (a.put oe.dst (ptrV r))) ∧ (i ≠ e → qOp P ops (cls C0 Cr st) i (anyE P md ops C0 Cr e oe L f st (s.setIfInBounds i true)) a)
variable {C0 : World → Prop} {Cr : Nat → World → Prop} {e : Nat} {oe : Oper} {L : Nat → Array Bool → Act → Prop}
def MakesAt (P : Program) (C0 : World → Prop) (Cr : Nat → World → Prop) (oe : Oper) : Prop :=
  oe.guard = none ∧ ∀ (a : Act) w, C0 w → ∃ r w', (execOp a.eval oe).run P w = .ok (.value (ptrV r)) w' ∧ Cr r w'
theorem wpAny_of_anyE {Q : Exit → Act → World → Prop} {g : Nat} (he : ops[e]? = some oe) (hm : MakesAt P C0 Cr oe) (hL : ∀ r s a w, Cr r w → L r s a → wpAny P md ops Q g s a w) :
    ∀ (f : Nat) (st : Option Nat) (s : Array Bool) (a : Act) (w : World), cls C0 Cr st w → anyE P md ops C0 Cr e oe L f st s a → wpAny P md ops Q (f + g) s a w
  | 0, none, s, a, w, hw, h => h.elim
  | 0, some r, s, a, w, hw, h => by rw [Nat.zero_add]; exact hL r s a w hw h
  | f + 1, st, s, a, w, hw, h => by
    rw [Nat.add_right_comm]
    refine ⟨fun h0 => absurd h0 h.1, fun i hi => ?_⟩
    by_cases hie : i = e
    · obtain ⟨hst, h1⟩ := (h.2 i hi).1 hie
      rw [hst] at hw
      obtain ⟨r, w', h2, h3⟩ := hm.2 a w hw
      rw [hie]
      unfold wpOp
      simp only [he]
      have hwant : Region.wanted oe (yielded ops a.tmps) = true := by unfold Region.wanted; rw [hm.1]
      rw [if_pos hwant]
      left
      unfold Oper.wp
      rw [h2, Oper.upon_value]
      exact wpAny_of_anyE he hm hL f (some r) _ _ w' h3 (h1 r)
    · exact wpOp_of_qOp hw (fun a' w' hw' h' => wpAny_of_anyE he hm hL f st _ a' w' hw' h') ((h.2 i hi).2 hie)
theorem anyE_first {p1 : List Nat} {i : Nat} {oi : Oper} {v : Value} (hi : ops[i]? = some oi) (he : ops[e]? = some oe) (hie : i ≠ e) (hip : i ∈ p1) (hp : phaseB md ops p1 p1 = true) (hsel : ∀ (j : Nat) (o : Oper) cs b, ops[j]? = some o → o.op ≠ .select cs b)
    (hL : ∀ r s a, L r s a → Done1 p1 s) (f : Nat) :
    ∀ (st : Option Nat) (s : Array Bool) (a : Act), PInv md ops p1 s →
      (∀ j oj, ops[j]? = some oj → j ≠ i → s.getD j true = false → (∀ e ∈ oj.after, Region.binds md e = true → e.on ≠ i) → oi.apart ops oj = true) →
      i ∈ Region.ready md ops s → (∀ st, YieldsIn P ops (cls C0 Cr st) oi v a) → anyE P md ops C0 Cr e oe L f st (s.setIfInBounds i true) (a.put oi.dst v) → anyE P md ops C0 Cr e oe L (f + 1) st s a := by
  have hnot : ∀ (s : Array Bool) (j : Nat) (oj : Oper), i ∈ Region.ready md ops s → j ∈ Region.ready md ops s → ops[j]? = some oj → ∀ e ∈ oj.after, Region.binds md e = true → e.on ≠ i := by
    intro s j oj hr hj hoj e' he' hb heq
    obtain ⟨_, oj', hoj', hall⟩ := mem_ready.1 hj
    rw [hoj] at hoj'; cases hoj'
    have h1 := hall e' he' hb
    rw [heq, getD_both (mem_ready.1 hr).1] at h1
    cases h1
  induction f with
  | zero =>
    intro st s a inv hfree hr hy hA
    cases st with
    | none => exact hA.elim
    | some r =>
      refine ⟨fun h => (by rw [h] at hr; cases hr), fun j hj => ?_⟩
      by_cases hji : j = i
      · subst hji
        exact ⟨fun h => absurd h hie, fun _ => (hy _).qOp hi hA⟩
      · exfalso
        by_cases hjp : j ∈ p1
        · have h1 := hL _ _ _ hA j hjp
          rw [getD_set_ne true (Ne.symm hji), (mem_ready.1 hj).1] at h1; cases h1
        · exact phase_waits hp inv hip (mem_ready.1 hr).1 hjp hj
  | succ f ih =>
    intro st s a inv hfree hr hy hA
    refine ⟨fun h => (by rw [h] at hr; cases hr), fun j hj => ?_⟩
    by_cases hji : j = i
    · subst hji
      exact ⟨fun h => absurd h hie, fun _ => (hy _).qOp hi hA⟩
    · have hjp : j ∈ p1 := Classical.byContradiction fun h => phase_waits hp inv hip (mem_ready.1 hr).1 h hj
      have h1 := hA.2 j (ready_mono hj hji)
      obtain ⟨hjun, oj, hoj, _⟩ := mem_ready.1 hj
      have hap := hfree j oj hoj hji hjun (hnot s j oj hr hj hoj)
      obtain ⟨q1, q2, q3⟩ := Oper.apart_spec hap
      have keep : ∀ u st, YieldsIn P ops (cls C0 Cr st) oi v (a.put oj.dst u) := fun u st =>
        (hy st).of_same (execOp_put oi (fun cs b => hsel i oi cs b hi) a oj.dst u q3) (wanted_put oi a oj.dst u q3)
      have hfree' : ∀ k ok, ops[k]? = some ok → k ≠ i → (s.setIfInBounds j true).getD k true = false →
          (∀ e ∈ ok.after, Region.binds md e = true → e.on ≠ i) → oi.apart ops ok = true := fun k ok hk hki hun hno => by
        refine hfree k ok hk hki ?_ hno
        by_cases hjk : j = k
        · subst hjk; exact hjun
        · rw [getD_set_ne true hjk] at hun; exact hun
      have inv' := inv.set hj hjp
      refine ⟨fun hje => ?_, fun hje => ?_⟩
      · subst hje
        obtain ⟨hst, h2⟩ := h1.1 rfl
        rw [he] at hoj; cases hoj
        refine ⟨hst, fun r => ih (some r) _ _ inv' hfree' (ready_mono hr (Ne.symm hji)) (keep _) ?_⟩
        rw [Array.setIfInBounds_comm _ _ hji, ← Act.put_comm a v (ptrV r) q2]
        exact h2 r
      · obtain ⟨u, hyj, hk⟩ := yieldsIn_of_qOp hoj (h1.2 hje)
        have hyj' : YieldsIn P ops (cls C0 Cr st) oj u a := hyj.of_same (execOp_put oj (fun cs b => hsel j oj cs b hoj) a oi.dst v q1).symm (wanted_put oj a oi.dst v q1).symm
        refine hyj'.qOp hoj (ih st _ _ inv' hfree' (ready_mono hr (Ne.symm hji)) (keep u) ?_)
        rw [Array.setIfInBounds_comm _ _ hji, ← Act.put_comm a v u q2]
        exact hk
def wpQs (P : Program) (ops : Array Oper) (C0 : World → Prop) (Cr : Nat → World → Prop) (K : Act → Prop) : List Nat → Act → Prop
  | [], a => K a
  | i :: l, a => ∃ o v, ops[i]? = some o ∧ (∀ st, YieldsIn P ops (cls C0 Cr st) o v a) ∧ wpQs P ops C0 Cr K l (a.put o.dst v)
def oneB (md : Region.Mode) (ops : Array Oper) (p1 : List Nat) (e : Nat) (t2 : List Nat) : List Nat → Array Bool → Bool
  | [], s => decide (Region.ready md ops s = [e]) && (p1.all (fun j => (s.setIfInBounds e true).getD j true) && seqIB md ops t2 (s.setIfInBounds e true))
  | i :: l, s => !(Nat.beq i e) && ((Region.ready md ops s).contains i && (Region.free md ops s i && (p1.contains i && oneB md ops p1 e t2 l (s.setIfInBounds i true))))
def RestE (P : Program) (md : Region.Mode) (ops : Array Oper) (Q : Exit → Act → World → Prop) (Cr : Nat → World → Prop) (p1 t2 : List Nat) (r : Nat) (s : Array Bool) (a : Act) : Prop := Done1 p1 s ∧ seqIB md ops t2 s = true ∧ ∀ w, Cr r w → wpSeq2 P ops Q t2 a w
theorem anyE_all {Q : Exit → Act → World → Prop} {p1 t2 : List Nat} (he : ops[e]? = some oe) (hsel : Region.noSelect ops = true) (hp : phaseB md ops p1 p1 = true) : ∀ (l : List Nat) (s : Array Bool) (a : Act), PInv md ops p1 s → oneB md ops p1 e t2 l s = true →
    wpQs P ops C0 Cr (fun a' => ∀ r w, Cr r w → wpSeq2 P ops Q t2 (a'.put oe.dst (ptrV r)) w) l a → anyE P md ops C0 Cr e oe (RestE P md ops Q Cr p1 t2) (l.length + 1) none s a
  | [], s, a, inv, hB, h => by
    simp only [oneB, Bool.and_eq_true, decide_eq_true_eq] at hB
    refine ⟨fun h1 => (by rw [hB.1] at h1; cases h1), fun j hj => ?_⟩
    rw [hB.1] at hj
    have hje : j = e := by simpa using hj
    refine ⟨fun _ => ⟨rfl, fun r => ⟨fun j hj => List.all_eq_true.1 hB.2.1 j hj, hB.2.2, fun w hw => h r w hw⟩⟩, fun hne => absurd hje hne⟩
  | i :: l, s, a, inv, hB, h => by
    obtain ⟨o, v, h0, hy, hK⟩ := h
    simp only [oneB, Bool.and_eq_true, Bool.not_eq_true'] at hB
    have hie : i ≠ e := fun h => by subst h; rw [Nat.beq_refl] at hB; cases hB.1
    have hr : i ∈ Region.ready md ops s := by simpa using hB.2.1
    have hip : i ∈ p1 := by simpa using hB.2.2.2.1
    exact anyE_first h0 he hie hip hp (Region.noSelect_spec hsel) (fun _ _ _ h => h.1) _ none s a inv (Region.free_spec h0 hB.2.2.1) hr hy (anyE_all he hsel hp l _ _ (inv.set hr hip) hB.2.2.2.2 hK)
def oneOK (ops : Array Oper) (qs : List Nat) (e : Nat) (t2 : List Nat) : Bool :=
  Region.noSelect ops && (Nat.beq (qs.length + 1 + t2.length) ops.size && (phaseB .any ops (qs ++ [e]) (qs ++ [e]) && oneB .any ops (qs ++ [e]) e t2 qs (Array.replicate ops.size false)))
theorem wp_region_one {id : Nat} {Q : Exit → Act → World → Prop} {a : Act} {w : World} {qs t2 : List Nat} (hm : P.follows .mixedOrders = true) (hB : oneOK ops qs e t2 = true) (he : ops[e]? = some oe) (hmk : MakesAt P C0 Cr oe) (hC : C0 { w with drawn := w.drawn + 1 })
    (hh : wpQs P ops C0 Cr (fun a' => ∀ r w, Cr r w → wpSeq2 P ops Q t2 (a'.put oe.dst (ptrV r)) w) qs a) : (Code.region id ops true).wp P Q a w := by
  simp only [oneOK, Bool.and_eq_true] at hB
  obtain ⟨hsel, hlen, hp, hB⟩ := hB
  refine wp_region_any hm ?_
  have inv : PInv .any ops (qs ++ [e]) (Array.replicate ops.size false) := ⟨fun j oj _ hl => (by rw [getD_replicate_false] at hl; cases hl), fun t ht => by rw [getD_replicate_false] at ht; cases ht⟩
  have := wpAny_of_anyE (md := .any) (Q := Q) (g := t2.length) he hmk (fun r s a w hw hL => wpAny_seq2 t2 s a w hL.2.1 (hL.2.2 w hw)) _ none _ a _ hC (anyE_all (md := .any) he hsel hp qs _ a inv hB hh)
  rwa [Nat.eq_of_beq_eq_true hlen] at this
end
end Go.Proofs.YtgkicojmgokinaaGreatDoor.Ab
