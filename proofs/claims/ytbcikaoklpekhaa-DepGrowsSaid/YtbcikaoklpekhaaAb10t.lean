/- The abstract run, tenth part, end: a region that draws its order: quiet operations (calls, too) in any order; then a schedule. -/
import Derived.Test.YtbcikaoklpekhaaAb10s
namespace Go.Proofs.Ytbcikaoklpekhaa.Ab
open Go Go.RowKit
set_option linter.unusedVariables false
set_option linter.unusedSimpArgs false
section
variable {P : Program} {ops : Array Oper} {md : Region.Mode} {C : World → Prop}
/-- Each operation from n on waits for the one at n - 1, or for the one before it. -/
def behindB (md : Region.Mode) (ops : Array Oper) (n : Nat) : Bool :=
  (List.range ops.size).all fun t => Nat.blt t n || (Region.waitsFor md ops t (n - 1) || (Nat.blt n t && Region.waitsFor md ops t (t - 1)))
theorem sink_done {n : Nat} {listed : Array Bool} (hs : Region.sinkB md ops n = true) (hl : listed.getD n false = true) (hcl : ∀ j oj, ops[j]? = some oj → listed.getD j false = true → ∀ e ∈ oj.after, Region.binds md e = true → listed.getD e.on false = true) :
    ∀ (d i : Nat), n - i = d → i < n → listed.getD i false = true := by
  intro d
  induction d using Nat.strongRecOn with
  | _ d ih =>
    intro i hd hi
    have h1 := List.all_eq_true.1 hs i (List.mem_range.2 hi)
    obtain ⟨j, hj, hj2⟩ := List.any_eq_true.1 h1
    simp only [Bool.and_eq_true, decide_eq_true_eq] at hj2
    obtain ⟨oj, hoj, e, he, hb, hon⟩ := Region.waitsFor_spec hj2.2
    have hjle : j ≤ n := by have := List.mem_range.1 hj; omega
    have hjd : listed.getD j false = true := by
      by_cases hjn : j = n
      · rw [hjn]; exact hl
      · exact ih (n - j) (by omega) j rfl (by omega)
    have := hcl j oj hoj hjd e he hb
    rwa [hon] at this
theorem behind_waits {n : Nat} {listed : Array Bool} (h0 : 0 < n) (hs : Region.sinkB md ops (n - 1) = true) (hc : behindB md ops n = true) (inv : HeadInv md ops n listed) (i : Nat) (hi : i < n) (hun : listed.getD i true = false) (t : Nat) (ht : n ≤ t) : t ∉ Region.ready md ops listed := by
  intro hr
  obtain ⟨_, ot, hot, hall⟩ := mem_ready.1 hr
  have htlt : t < ops.size := (Array.getElem?_eq_some_iff.1 hot).1
  have h1 := List.all_eq_true.1 hc t (List.mem_range.2 htlt)
  simp only [Bool.or_eq_true, Bool.and_eq_true] at h1
  rcases h1 with h1 | h1 | ⟨h1, h2⟩
  · have : t < n := Nat.lt_of_succ_le (Nat.le_of_ble_eq_true h1)
    omega
  · obtain ⟨o', ho', e, he, hb, hon⟩ := Region.waitsFor_spec h1
    have : o' = ot := Option.some.inj (ho'.symm.trans hot)
    subst this
    have h2 := hall e he hb
    rw [hon] at h2
    rcases Nat.lt_or_ge i (n - 1) with hlt | hge
    · have := sink_done hs h2 inv.closed _ i rfl hlt
      rw [getD_both hun] at this; cases this
    · have : i = n - 1 := by omega
      rw [← this, getD_both hun] at h2; cases h2
  · have hlt : n < t := Nat.lt_of_succ_le (Nat.le_of_ble_eq_true h1)
    obtain ⟨o', ho', e, he, hb, hon⟩ := Region.waitsFor_spec h2
    have : o' = ot := Option.some.inj (ho'.symm.trans hot)
    subst this
    have h3 := hall e he hb
    rw [hon, getD_both (inv.tail (t - 1) (by omega) (by omega))] at h3
    cases h3
theorem anyH_firstB {n i : Nat} {oi : Oper} {v : Value} {L : Array Bool → Act → Prop} (hi : ops[i]? = some oi) (hsel : ∀ (j : Nat) (o : Oper) cs b, ops[j]? = some o → o.op ≠ .select cs b)
    (h0 : 0 < n) (hs : Region.sinkB md ops (n - 1) = true) (hc : behindB md ops n = true) (hin : i < n) (hdone : ∀ s a, L s a → ∀ j ∈ Region.ready md ops s, n ≤ j) (f : Nat) :
    ∀ (s : Array Bool) (a : Act), HeadInv md ops n s →
      (∀ j oj, ops[j]? = some oj → j ≠ i → s.getD j true = false → (∀ e ∈ oj.after, Region.binds md e = true → e.on ≠ i) → oi.apart ops oj = true) →
      i ∈ Region.ready md ops s → YieldsIn P ops C oi v a → anyH P md ops C n L f (s.setIfInBounds i true) (a.put oi.dst v) → anyH P md ops C n L (f + 1) s a := by
  induction f with
  | zero =>
    intro s a inv _ hr hy hL
    refine ⟨fun h => (by rw [h] at hr; cases hr), fun j hj => ?_⟩
    by_cases hji : j = i
    · subst hji; exact ⟨hin, hy.qOp hi hL⟩
    · have h1 := hdone _ _ hL j (ready_mono hj hji)
      exact absurd hj (behind_waits h0 hs hc inv i hin (mem_ready.1 hr).1 j h1)
  | succ f ih =>
    intro s a inv hfree hr hy hA
    refine ⟨fun h => (by rw [h] at hr; cases hr), fun j hj => ?_⟩
    have hjn : j < n := Nat.lt_of_not_le fun h => behind_waits h0 hs hc inv i hin (mem_ready.1 hr).1 j h hj
    by_cases hji : j = i
    · subst hji; exact ⟨hin, hy.qOp hi hA⟩
    · have h1 := (hA.2 j (ready_mono hj hji)).2
      obtain ⟨hjs, oj, hoj, hall⟩ := mem_ready.1 hj
      have hno : ∀ e ∈ oj.after, Region.binds md e = true → e.on ≠ i := fun e he hb heq => by
        have h2 := hall e he hb
        rw [heq, getD_both (mem_ready.1 hr).1] at h2
        cases h2
      refine ⟨hjn, qOp_mono (fun a' h3 => ih _ a' (inv.set hj hjn) (fun k ok hk hki hks hke => hfree k ok hk hki ?_ hke) (ready_mono hr (Ne.symm hji)) h3.1 ?_) (qOp_put hoj (hfree j oj hoj hji hjs hno) (fun cs b => hsel i oi cs b hi) (fun cs b => hsel j oj cs b hoj) hy h1)⟩
      · by_cases hjk : j = k
        · subst hjk; exact hjs
        · rwa [getD_set_ne true hjk] at hks
      · rw [Array.setIfInBounds_comm _ _ hji]; exact h3.2
/-- The head in its lexical order, then a schedule. -/
def lexSched (md : Region.Mode) (ops : Array Oper) (n : Nat) (h t : List Nat) : Nat → Nat → Array Bool → Bool
  | 0, k, s => (Region.ready md ops s).all (fun j => Nat.ble n j) && schedB md ops h t s
  | f + 1, k, s => (Region.ready md ops s).contains k && Region.free md ops s k && lexSched md ops n h t f (k + 1) (s.setIfInBounds k true)
theorem anyH_lexB {n : Nat} {h t : List Nat} {K : Act → Prop} (hsel : Region.noSelect ops = true) (h0 : 0 < n) (hs : Region.sinkB md ops (n - 1) = true) (hc : behindB md ops n = true) :
    ∀ (l : List Oper) (k : Nat) (s : Array Bool) (a : Act), (∀ j, j < l.length → l[j]? = ops[k + j]?) → k + l.length = n → HeadInv md ops n s → lexSched md ops n h t l.length k s = true → wpQuiet P ops C K l a →
      anyH P md ops C n (fun s' a' => (∀ j ∈ Region.ready md ops s', n ≤ j) ∧ schedB md ops h t s' = true ∧ K a') l.length s a
  | [], k, s, a, _, hk, _, hB, hh => by
    simp only [List.length_nil, lexSched, Bool.and_eq_true] at hB
    exact ⟨fun j hj => Nat.le_of_ble_eq_true (List.all_eq_true.1 hB.1 j hj), hB.2, hh⟩
  | o :: l, k, s, a, hl, hk, inv, hB, hh => by
    have e0 : ops[k]? = some o := by simpa using (hl 0 (by simp)).symm
    simp only [List.length_cons, lexSched, Bool.and_eq_true] at hB
    simp only [List.length_cons] at hk
    have hr : k ∈ Region.ready md ops s := by simpa using hB.1.1
    obtain ⟨v, hy, hK⟩ := yieldsIn_of_qOp (P := P) (C := C) (K := wpQuiet P ops C K l) e0 (by unfold qOp; simp only [e0]; exact hh)
    exact anyH_firstB e0 (Region.noSelect_spec hsel) h0 hs hc (by omega) (fun s' a' hL => hL.1) l.length s a inv (Region.free_spec e0 hB.1.2) hr hy
      (anyH_lexB hsel h0 hs hc l (k + 1) _ _ (fun j hj => by have := hl (j + 1) (by simp; omega); simpa [Nat.add_assoc, Nat.add_comm 1 j] using this) (by omega) (inv.set hr (by omega)) hB.2 hK)
/-- The check of a region: a quiet head of n operations, then a schedule. -/
def mixB (ops : Array Oper) (n : Nat) (h t : List Nat) : Bool :=
  Region.noSelect ops && (Nat.blt 0 n && (Nat.beq (n + (h.length + t.length)) ops.size && (Region.sinkB .any ops (n - 1) && (behindB .any ops n && lexSched .any ops n h t n 0 (Array.replicate ops.size false)))))
theorem wp_region_mix {id : Nat} {Q : Exit → Act → World → Prop} {a : Act} {w : World} {l : List Oper} {h t : List Nat} {D : World → World → Prop} (n : Nat) (hm : P.follows .mixedOrders = true) (hB : mixB l.toArray n h t = true) (hC : C { w with drawn := w.drawn + 1 })
    (hQ : ∀ (o : Oper) v c a w, Q (.panic c) (a.put o.dst v) w → Q (.panic c) a w)
    (hh : wpQuiet P l.toArray C (fun a' => ∀ w', C w' → wpHeadC P l.toArray (D w') (fun a2 => wpSeqC P l.toArray (D w') Q t a2 w') h a') (l.take n) a) : (Code.region id l.toArray true).wp P Q a w := by
  simp only [mixB, Bool.and_eq_true] at hB
  obtain ⟨hsel, h0, hlen, hs, hc, hlex⟩ := hB
  have h0' : 0 < n := Nat.lt_of_succ_le (Nat.le_of_ble_eq_true h0)
  have hlen' : n + (h.length + t.length) = l.length := by simpa using Nat.eq_of_beq_eq_true hlen
  have htl : (l.take n).length = n := by simp; omega
  have inv0 : HeadInv .any l.toArray n (Array.replicate l.toArray.size false) :=
    ⟨by simp, fun j oj _ hl => (by rw [getD_replicate_false] at hl; cases hl), fun t _ ht => getD_in (by simpa using ht) (getD_replicate_false _ _)⟩
  have H := anyH_lexB (md := .any) (h := h) (t := t) hsel h0' hs hc (l.take n) 0 _ a (fun j hj => by
    rw [htl] at hj
    simp [hj]) (by simpa using htl) inv0 (by rw [htl]; exact hlex) hh
  refine wp_region_any hm ?_
  have := wpAny_of_anyH (Q := Q) (g := h.length + t.length) (fun s a' w' hw' hL => wpAny_of_C _ _ _ _ (wpAnyC_head (C := D w') hsel hQ h t s a' w' hL.2.1 (hL.2.2 w' hw'))) _ _ _ _ hC H
  rw [htl, hlen', show l.length = l.toArray.size by simp] at this
  exact this
end
end Go.Proofs.Ytbcikaoklpekhaa.Ab
