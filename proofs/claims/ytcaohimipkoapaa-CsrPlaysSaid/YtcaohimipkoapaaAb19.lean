/- The abstract run, nineteenth part: a call of which only plain values are told; told anew under other numbers, a block may come below lo. -/
import Derived.Test.YtcaohimipkoapaaAb18
namespace Go.Proofs.Ytcaohimipkoapaa.Ab
open Go Go.RowKit
set_option linter.unusedVariables false
set_option linter.unusedSimpArgs false
/-- What a call of plain values answers that is told of no block, it answers in any world; nothing told turns. -/
theorem CallOK.plain {P : Program} {C : Ctx} (hC : CtxOK P C) {m f : Nat} {args : List Value} {v : Value} (h : callK C m 0 f args [] (fun v _ => some v) = some v) (hv : Ab.plain v = true) (hargs : args.all Ab.plain = true) (lo : Nat) (H : Heap) : CallOK P lo f args H v H := by
  intro M w rargs hR hra
  rw [VRs.plain_eq hargs hra]
  exact (calls_of_run hC hargs hv h w).mono fun e w' ⟨he, bel⟩ => ⟨M, v, he, plain_VR hv, Ext.refl _ _ _, hR.below bel, Keep.of_below bel⟩
/-- What a call answers that is told of one block of which nothing is read: the place of a part of it, or plain values. -/
theorem CallOK.quietAt {P : Program} {C : Ctx} (hC : CtxOK P C) {m f j : Nat} {args : List Value} {v : Value} {b : Blk} (h : callK C m 1 f (.pointer (some ⟨0, 0, none⟩) :: args) [some b] (fun v _ => some v) = some v)
    (hv : Ab.plain v = true) (hargs : args.all Ab.plain = true) (hbv : b.view = none) (hbp : b.cells.all Ab.plain = true) (lo : Nat) (H : Heap) (hj : H[j]? = some (some b)) :
    CallOK P lo f (.pointer (some ⟨j, 0, none⟩) :: args) H v H := CallOK.quiet hC h hv hargs hbv hbp lo H hj
theorem At.selB {B : Nat} {w0 : World} {lo n : Nat} {M : Mp} {F F' : Fr} {H H' : Heap} {a : Act} {w : World} (h : At B w0 lo n M F H a w) (sel : List Nat)
    (hl : H'.length = sel.length) (hM : ∀ s ∈ sel, s < M.length) (hlo : ∀ (i s : Nat), sel[i]? = some s → lo ≤ i → lo ≤ s) (hnd : ∀ (i j s : Nat), sel[i]? = some s → sel[j]? = some s → i = j)
    (hb : ∀ (i : Nat) (b : Blk), H'[i]? = some (some b) → ∃ s, sel[i]? = some s ∧ H[s]? = some (some b) ∧ b.view = none ∧ b.cells.all plain = true)
    (hF : FR (selM M sel) F' a.tmps) : At B w0 lo n (selM M sel) F' H' a w := by
  refine ⟨⟨by simp [selM, hl], fun i p e => ?_, fun i b e => ?_, fun i p hi e => ?_, fun i j b b' p q hij e1 e2 e3 e4 hlo' => ?_⟩, hF, h.size, h.defers, h.below, h.base, fun i p hi e => ?_⟩
  · obtain ⟨s, _, h2⟩ := selM_some e hM
    exact h.rel.dom s p h2
  · obtain ⟨s, h1, h2, h3, h4⟩ := hb i b e
    obtain ⟨r, o, cs, t, fz, g1, g2, g3, g4, g5, g6⟩ := h.rel.blk s b h2
    refine ⟨r, o, cs, t, fz, by rw [selM_get h1 (hM s (List.mem_of_getElem? h1))]; exact g1, g2, fun hi => g3 (hlo i s h1 hi), g4, ?_, fun p o' hv => by rw [h3] at hv; cases hv⟩
    rw [VRs.plain_eq h4 g5]
    exact VRs.plain h4
  · obtain ⟨s, h1, h2⟩ := selM_some e hM
    exact h.rel.own s p (hlo i s h1 hi) h2
  · obtain ⟨s, f1, f2⟩ := selM_some e3 hM
    obtain ⟨s', f3, f4⟩ := selM_some e4 hM
    obtain ⟨_, k1, k2, _, _⟩ := hb i b e1
    obtain ⟨_, k3, k4, _, _⟩ := hb j b' e2
    rw [f1] at k1; cases k1
    rw [f3] at k3; cases k3
    refine h.rel.inj s s' b b' p q (fun hss => hij (hnd i j s f1 (by rw [hss]; exact f3))) k2 k4 f2 f4 ?_
    rcases hlo' with hi | hi
    · exact .inl (hlo i s f1 hi)
    · exact .inr (hlo j s' f3 hi)
  · obtain ⟨s, h1, h2⟩ := selM_some e hM
    exact h.own s p (hlo i s h1 hi) h2
end Go.Proofs.Ytcaohimipkoapaa.Ab
