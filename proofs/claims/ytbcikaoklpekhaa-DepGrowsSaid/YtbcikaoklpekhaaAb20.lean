/- The abstract run, twentieth part: where nothing was told at the call: told anew without care for blocks of which nothing is told; all that was made told as what nobody writes any more. -/
import Derived.Test.YtbcikaoklpekhaaAb19
namespace Go.Proofs.Ytbcikaoklpekhaa.Ab
open Go Go.RowKit
set_option linter.unusedVariables false
set_option linter.unusedSimpArgs false
/-! ### Told anew, where nothing was told at the call -/
theorem AtG.retell0 {lo n : Nat} {M0 M : Mp} {w0 w : World} {F F' : Fr} {H H' : Heap} {a : Act} (h : AtG lo M0 w0 n M F H a w) (h0 : M0.pl = []) (sel : List Nat) (hsel : ∀ s ∈ sel, s < M.pl.length)
    (hnd : ∀ (i j s : Nat) (b b' : Blk), sel[i]? = some s → sel[j]? = some s → H'[i]? = some (some b) → H'[j]? = some (some b') → i = j) (hlo : ∀ (i s : Nat), sel[i]? = some s → lo ≤ i → lo ≤ s) (hl : H'.length = sel.length)
    (hb : ∀ (i : Nat) (b' : Blk), H'[i]? = some (some b') → ∃ s b, sel[i]? = some s ∧ H[s]? = some (some b) ∧ b'.elem = b.elem ∧ b'.view = none ∧ b'.cells.length ≤ b.cells.length ∧ ∀ us, VRs M b.cells us → VRs (selM M sel) b'.cells (us.take b'.cells.length))
    (hF : ∀ e ∈ F', ∃ v, F.get e.1 = some v ∧ ∀ u, VR M v u → VR (selM M sel) e.2 u) : AtG lo M0 w0 n (selM M sel) F' H' a w := by
  refine ⟨⟨by simp [selM, hl], fun i p e => ?_, fun i b' e => ?_, fun i p hi e => ?_, fun i j b1 b2 p q hij e1 e2 e3 e4 hl' => ?_, fun r o ys e => ?_⟩, ?_, h.size, h.defers, ⟨⟨fun i p e => ?_, fun r o ys e => h.ext.le.fz r o ys e⟩, fun i p hi e => ?_, fun r o ys e => h.ext.newfz r o ys e⟩, h.keep⟩
  · obtain ⟨s, _, h2⟩ := selM_some e hsel
    exact h.rel.dom s p h2
  · obtain ⟨s, b, h1, h2, h3, h4, h5, h6⟩ := hb i b' e
    obtain ⟨r, o, cs, t, fz, g1, g2, g3, g4, g5, g6⟩ := h.rel.blk s b h2
    refine ⟨r, o, cs, t, fz, by rw [selM_get h1 (hsel s (List.mem_of_getElem? h1))]; exact g1, g2, fun hi => by rw [h3]; exact g3 (hlo i s h1 hi), by omega, ?_, fun p o' hv => by rw [h4] at hv; cases hv⟩
    have := h6 _ g5
    rwa [List.take_take, Nat.min_eq_left h5] at this
  · obtain ⟨s, h1, h2⟩ := selM_some e hsel
    exact h.rel.own s p (hlo i s h1 hi) h2
  · obtain ⟨s, f1, f2⟩ := selM_some e3 hsel
    obtain ⟨s', f3, f4⟩ := selM_some e4 hsel
    obtain ⟨_, c1, k1, k2, _⟩ := hb i b1 e1
    obtain ⟨_, c2, k3, k4, _⟩ := hb j b2 e2
    rw [f1] at k1; cases k1
    rw [f3] at k3; cases k3
    refine h.rel.inj s s' c1 c2 p q (fun hss => hij (hnd i j s b1 b2 f1 (by rw [hss]; exact f3) e1 e2)) k2 k4 f2 f4 ?_
    rcases hl' with hi | hi
    · exact .inl (hlo i s f1 hi)
    · exact .inr (hlo j s' f3 hi)
  · obtain ⟨g1, g2⟩ := h.rel.froz r o ys e
    refine ⟨g1, fun i p hi ep => ?_⟩
    obtain ⟨s, h1, h2⟩ := selM_some ep hsel
    exact g2 s p (hlo i s h1 hi) h2
  · intro t v e
    obtain ⟨v0, h1, h2⟩ := hF (t, v) (Fr.get_mem e)
    obtain ⟨u, h3, h4⟩ := h.fr t v0 h1
    exact ⟨u, h3, h2 u h4⟩
  · rw [h0] at e; simp at e
  · obtain ⟨s, h1, h2⟩ := selM_some e hsel
    exact h.ext.new s p (by rw [h0]; exact Nat.zero_le _) h2
/-- A told value, where all that was made is told as what nobody writes any more. -/
def FzV (H : Heap) (v v' : Value) : Prop :=
  (v' = v ∧ Gh v) ∨ (∃ j m z cells el, 0 < z ∧ v = .slice (some ⟨j, 0, none⟩) m z ∧ H[j]? = some (some ⟨cells, el, none⟩) ∧ m * z ≤ cells.length ∧ (∀ x ∈ cells, Gh x) ∧ v' = gs z (cells.take (m * z)) m) ∨ ∃ z, v = .slice none 0 0 ∧ v' = gs z [] 0
theorem AtG.freeze {lo n : Nat} {M0 M : Mp} {w0 w : World} {F F' : Fr} {H : Heap} {a : Act} (h : AtG lo M0 w0 n M F H a w) (h0 : M0.pl = []) (hz : lo = 0) (hF : ∀ e ∈ F', ∃ v, F.get e.1 = some v ∧ FzV H v e.2) : ∃ M', AtG lo M0 w0 n M' F' [] a w := by
  have new : ∀ (j : Nat) (p : Pl), M.pl[j]? = some p → w0.heap.size ≤ p.1 := fun j p hp => by
    rcases h.ext.new j p (by rw [h0]; exact Nat.zero_le _) hp with h1 | ⟨j', q, _, h2, _⟩
    · exact h1
    · rw [h0] at h2; simp at h2
  refine ⟨⟨[], fun r o ys => M.fz r o ys ∨ (w0.heap.size ≤ r ∧ Froz w r o ys)⟩, rel_fz (fun r o ys e => ?_) lo, ?_, h.size, h.defers, ⟨⟨fun i p e => ?_, fun r o ys e => .inl (h.ext.le.fz r o ys e)⟩, fun i p hi e => ?_, fun r o ys e => ?_⟩, h.keep⟩
  · rcases e with e | e
    · exact (h.rel.froz r o ys e).1
    · exact e.2
  · intro t v e
    obtain ⟨v0, h1, h2⟩ := hF (t, v) (Fr.get_mem e)
    obtain ⟨u, h3, h4⟩ := h.fr t v0 h1
    refine ⟨u, h3, ?_⟩
    simp only at h2
    rcases h2 with ⟨rfl, hg⟩ | ⟨j, m, z, cells, el, hz, rfl, hb, hm, hg, rfl⟩ | ⟨z, rfl, rfl⟩
    · exact hg.le (M' := ⟨[], fun r o ys => M.fz r o ys ∨ (w0.heap.size ≤ r ∧ Froz w r o ys)⟩) (fun r o ys e => Or.inl e) h4
    · obtain ⟨r', s', cs, t', fz, g1, g2, g3, g4, g5, g6⟩ := h.rel.blk j _ hb
      have hg5 := (Gh.vrs hg g5).le (Le.of_nil (M := ⟨[], fun r o ys => M.fz r o ys ∨ (w0.heap.size ≤ r ∧ Froz w r o ys)⟩) fun r o ys e => Or.inl e)
      simp only at g4 hg5
      have hcl : ((cs.drop s').take cells.length).length = cells.length := by simp; omega
      cases h4 with
      | empt => omega
      | slice hM k1 k2 =>
        rename_i r s N c
        rw [g1] at hM; cases hM
        refine .gsl (ys := (cs.drop s').take cells.length) (r := r') (o := s') (k := 0) (.inr ⟨new j _ g1, cs, t', fz, g2, by rw [hcl]; exact g4, by rw [hcl], by rw [(g3 (by omega)).2]; exact Unfz.zero _ _⟩) (by rw [hcl]; omega) k1 (by simp; omega) ?_
        rw [List.drop_zero]
        exact hg5.take _
    · cases h4; exact .gnil _
  · rw [h0] at e; simp at e
  · simp at e
  · rcases e with e | e
    · exact h.ext.newfz r o ys e
    · exact .inr (.inl e.1)
section
variable {P : Program} {lo n : Nat} {l : List Code} {F F1 F2 : Fr} {H H1 H2 : Heap} {e : Exit}
theorem GoOK.freeze (h : GoOK P 0 0 n l F H e F1 H1) (hF : ∀ e ∈ F2, ∃ v, F1.get e.1 = some v ∧ FzV H1 v e.2) : GoOK P 0 0 n l F H e F2 [] := by
  intro M0 w0 M a w hb ha Q rest hq
  refine h M0 w0 M a w hb ha Q rest fun M1 a1 w1 hA => ?_
  obtain ⟨M', hA'⟩ := hA.freeze (List.eq_nil_of_length_eq_zero hb) rfl hF
  exact hq M' a1 w1 hA'
/-- Told anew: these blocks, or fewer cells of them; a slot may name one of them. -/
theorem GoOK.pick (h : GoOK P lo 0 n l F H e F1 H1) (sel : List Nat) (hsel : ∀ s ∈ sel, s < H1.length) (hlo : lo = 0) (hl : H2.length = sel.length)
    (hnd : ∀ (i j s : Nat) (b b' : Blk), sel[i]? = some s → sel[j]? = some s → H2[i]? = some (some b) → H2[j]? = some (some b') → i = j)
    (hb : ∀ (i : Nat) (b' : Blk), H2[i]? = some (some b') → b'.view = none ∧ (∀ x ∈ b'.cells, Gh x) ∧ ∃ s, sel[i]? = some s ∧ H1[s]? = some (some b'))
    (hF : ∀ e ∈ F2, (F1.get e.1 = some e.2 ∧ Gh e.2) ∨ ∃ i s m z, 0 < z ∧ sel[i]? = some s ∧ F1.get e.1 = some (.slice (some ⟨s, 0, none⟩) m z) ∧ e.2 = .slice (some ⟨i, 0, none⟩) m z) : GoOK P lo 0 n l F H e F2 H2 := by
  intro M0 w0 M a w hbs ha Q rest hq
  refine h M0 w0 M a w hbs ha Q rest fun M1 a1 w1 hA => ?_
  have hl1 := hA.rel.len
  refine hq _ a1 w1 (hA.retell0 (List.eq_nil_of_length_eq_zero hbs) (F' := F2) (H' := H2) sel (fun s hs => by rw [hl1]; exact hsel s hs) hnd (fun _ _ _ _ => by omega) hl (fun i b' e => ?_) (fun x hx => ?_))
  · obtain ⟨h1, h2, s, h3, h4⟩ := hb i b' e
    refine ⟨s, b', h3, h4, rfl, h1, Nat.le_refl _, fun us hu => ?_⟩
    rw [List.take_of_length_le (by rw [← hu.length]; exact Nat.le_refl _)]
    exact (Gh.vrs h2 hu).le (Le.of_nil (M := selM M1 sel) fun _ _ _ h => h)
  · rcases hF x hx with ⟨h1, h2⟩ | ⟨i, s, m, z, hz, h1, h2, h3⟩
    · exact ⟨x.2, h1, fun u hu => tr_gh h2 hu⟩
    · refine ⟨_, h2, fun u hu => ?_⟩
      rw [h3]
      exact tr_slice h1 (by rw [hl1]; exact hsel s (List.mem_of_getElem? h1)) hz hu
/-- Told anew: one block. -/
theorem GoOK.one (h : GoOK P 0 0 n l F H e F1 H1) (j : Nat) {b : Blk} (hj : H1[j]? = some (some b)) (hv : b.view = none) (hg : ∀ x ∈ b.cells, Gh x)
    (hF : ∀ e ∈ F2, (F1.get e.1 = some e.2 ∧ Gh e.2) ∨ ∃ m z, 0 < z ∧ F1.get e.1 = some (.slice (some ⟨j, 0, none⟩) m z) ∧ e.2 = .slice (some ⟨0, 0, none⟩) m z) : GoOK P 0 0 n l F H e F2 [some b] :=
  h.pick [j] (fun s hs => by simp at hs; subst hs; exact (List.getElem?_eq_some_iff.1 hj).1) rfl rfl
    (fun i i' s b1 b2 h1 h2 _ _ => by
      have a1 := (List.getElem?_eq_some_iff.1 h1).1
      have a2 := (List.getElem?_eq_some_iff.1 h2).1
      simp at a1 a2; omega)
    (fun i b' e => by
      cases i with
      | zero => simp at e; subst e; exact ⟨hv, hg, j, rfl, hj⟩
      | succ i => simp at e)
    (fun x hx => by
      rcases hF x hx with h1 | ⟨m, z, hz, h1, h2⟩
      · exact .inl h1
      · exact .inr ⟨0, j, m, z, hz, rfl, h1, h2⟩)
end
end Go.Proofs.Ytbcikaoklpekhaa.Ab
