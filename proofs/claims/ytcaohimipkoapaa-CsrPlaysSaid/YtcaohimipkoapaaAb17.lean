/- The abstract run, seventeenth part: a call that writes to nothing told, told once for every place; ways part in a row of pieces. -/
import Derived.Test.YtcaohimipkoapaaAb16
namespace Go.Proofs.Ytcaohimipkoapaa.Ab
open Go Go.RowKit
set_option linter.unusedVariables false
set_option linter.unusedSimpArgs false
theorem Rel.one {lo : Nat} {M : Mp} {H : Heap} {w : World} (h : Rel lo M H w) {j : Nat} {b : Blk} (hj : H[j]? = some (some b)) (hv : b.view = none) (hp : b.cells.all plain = true) {p : Pl} (hM : M[j]? = some p) : Rel 1 [p] [some b] w := by
  refine ⟨rfl, fun i q e => ?_, fun i x e => ?_, fun i q hi e => ?_, fun i k x y q q' hik e1 e2 e3 e4 hl => ?_⟩
  · match i, e with
    | 0, e => cases e; exact h.dom j _ hM
    | i + 1, e => cases e
  · match i, e with
    | 0, e =>
      cases e
      obtain ⟨r, s, cs, t, fz, g1, g2, g3, g4, g5, g6⟩ := h.blk j b hj
      rw [hM] at g1; cases g1
      exact ⟨r, s, cs, t, fz, rfl, g2, fun hi => absurd hi (by decide), g4, by rw [VRs.plain_eq hp g5]; exact VRs.plain hp, fun p o hpo => by rw [hv] at hpo; cases hpo⟩
    | i + 1, e => cases e
  · match i, hi, e with
    | i + 1, _, e => cases e
  · match i, k, e1, e2 with
    | 0, 0, _, _ => exact absurd rfl hik
    | i + 1, _, e1, _ => cases e1
    | _, k + 1, _, e2 => cases e2
/-- What a call answers that is told of one block, as a block that it may not write, it answers wherever that block lies; nothing told turns. -/
theorem CallOK.quiet {P : Program} {C : Ctx} (hC : CtxOK P C) {m f j : Nat} {args : List Value} {v : Value} {b : Blk} (h : callK C m 1 f (.pointer (some ⟨0, 0, none⟩) :: args) [some b] (fun v _ => some v) = some v)
    (hv : plain v = true) (hargs : args.all plain = true) (hbv : b.view = none) (hbp : b.cells.all plain = true) (lo : Nat) (H : Heap) (hj : H[j]? = some (some b)) :
    CallOK P lo f (.pointer (some ⟨j, 0, none⟩) :: args) H v H := by
  intro M w rargs hR hra
  obtain ⟨v', H', h1, h2, _⟩ := callK_sound hC m _ _ _ _ _ _ h
  cases h1
  cases hra with
  | cons a as =>
    cases a with
    | @ptr _ _ r s N hM =>
      have hR1 := hR.one hj hbv hbp hM
      refine (h2 [(r, s, N)] w _ hR1 (.cons (.ptr (b := 0) (o := 0) rfl) (by rw [VRs.plain_eq hargs as]; exact VRs.plain hargs))).mono fun e w' ⟨M', rv, he, hr, hx, hR', hK⟩ => ?_
      have bel := hK.below (Nat.le_refl _)
      rw [plain_eq hv hr] at he
      exact ⟨M, v, he, plain_VR hv, Ext.refl _ _ _, hR.below bel, Keep.of_below bel⟩
/-- Ways part. -/
theorem wpL_cond {P : Program} {Q : Exit → Act → World → Prop} {M : Mp} {F : Fr} {a : Act} {w : World} {t : Tmp} {b : Bool} {x y : Code} {rest : List Code} (hF : FR M F a.tmps) (hb : F.get t = some (.bool b))
    (h : wpL P Q (flat (bif b then x else y) ++ rest) a w) : wpL P Q (Code.cond (.tmp t) x y :: rest) a w := by
  have e : a.eval (.tmp t) = .bool b := by
    have hv := arg_sound (x := .tmp t) hF hb
    generalize a.eval (.tmp t) = u at hv
    cases hv; rfl
  cases b with
  | true => exact wp_cond_true e (wpL_flat x rest a w h)
  | false => exact wp_cond_false e (wpL_flat y rest a w h)
/-- A block in a row of pieces that is left behind its end only. -/
theorem wpL_block {P : Program} {Q : Exit → Act → World → Prop} {id : Nat} {c : Code} {rest : List Code} {a : Act} {w : World} (h : wpL P (Exit.inBlock id (Exit.then (wpL P Q rest) Q)) (flat c) a w) : wpL P Q (Code.block id c :: rest) a w :=
  wp_block (wp_of_flat h)
end Go.Proofs.Ytcaohimipkoapaa.Ab
