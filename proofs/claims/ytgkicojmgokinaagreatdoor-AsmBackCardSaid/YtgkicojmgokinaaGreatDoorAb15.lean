/- The abstract run, fifteenth part: code in pieces; a world in which something is told. -/
import Derived.Test.YtgkicojmgokinaaGreatDoorAb14
namespace Go.Proofs.YtgkicojmgokinaaGreatDoor.Ab
open Go Go.RowKit
set_option linter.unusedVariables false
set_option linter.unusedSimpArgs false
/-- The pieces of a code, in a row. -/
def flat : Code → List Code
  | .seq a b => flat a ++ flat b
  | c => [c]
def wpL (P : Program) (Q : Exit → Act → World → Prop) : List Code → Act → World → Prop
  | [], a, w => Q .normal a w
  | c :: l, a, w => c.wp P (Exit.then (wpL P Q l) Q) a w
theorem wpL_flat {P : Program} {Q : Exit → Act → World → Prop} : ∀ (c : Code) (l : List Code) (a : Act) (w : World), wpL P Q (flat c ++ l) a w → c.wp P (Exit.then (wpL P Q l) Q) a w := by
  intro c
  induction c with
  | seq x y ihx ihy =>
    intro l a w h
    simp only [flat, List.append_assoc] at h
    refine wp_seq ?_
    refine wp_mono (ihx _ a w h) fun e a' w' he => ?_
    cases e with
    | normal => exact ihy l a' w' he
    | _ => exact he
  | _ => intro l a w h; exact h
theorem wp_of_flat {P : Program} {Q : Exit → Act → World → Prop} {c : Code} {a : Act} {w : World} (h : wpL P Q (flat c) a w) : c.wp P Q a w := by
  have := wpL_flat c [] a w (by simpa using h)
  refine wp_mono this fun e a' w' he => ?_
  cases e <;> exact he
section
variable {α : Type}
def runL (C : Ctx) (call : Call α) (m lo n f : Nat) (p : Nat → Bool) : List Code → Fr → Heap → (Exit → Fr → Heap → Option α) → Option α
  | [], F, H, K => K .normal F H
  | c :: l, F, H, K => runK C call m lo n f p c F H (fun e F' H' => match e with
    | .normal => runL C call m lo n f p l F' H' K
    | e => K e F' H')
end
/-- A row of pieces, from what is told, comes to this exit (normal: behind the last one), and then this is told. -/
def RowOK (P : Program) (lo n : Nat) (l : List Code) (F : Fr) (H : Heap) (e : Exit) (F' : Fr) (H' : Heap) : Prop :=
  ∀ (M : Mp) (a : Act) (w : World), Rel lo M H w → FR M F a.tmps → a.tmps.size = n → a.defers = [] → ∀ (Q : Exit → Act → World → Prop) (rest : List Code),
    (∀ M' a' w', Ext lo M w M' → Rel lo M' H' w' → Keep lo M w w' → FR M' F' a'.tmps → a'.tmps.size = n → a'.defers = [] → Exit.then (wpL P Q rest) Q e a' w') → wpL P Q (l ++ rest) a w
theorem runL_sound {P : Program} {C : Ctx} (hC : CtxOK P C) {α : Type} {call : Call α} (hcall : CallsOK P call) {m lo n f : Nat} {p : Nat → Bool} {r : α} : ∀ (l : List Code), l.all (drawsOK (C.dr f)) = true → ∀ (F : Fr) (H : Heap) (K : Exit → Fr → Heap → Option α), runL C call m lo n f p l F H K = some r →
    ∃ e F' H', K e F' H' = some r ∧ RowOK P lo n l F H e F' H'
  | [], _, F, H, K, h => ⟨.normal, F, H, h, fun M a w hR hF hs hd Q rest hk => hk M a w (Ext.refl _ _ _) hR (Keep.refl _ _ _) hF hs hd⟩
  | c :: l, hd, F, H, K, h => by
    simp only [List.all_cons, Bool.and_eq_true] at hd
    unfold runL at h
    obtain ⟨e, F1, H1, h1, h2⟩ := runK_sound hC hcall c hd.1 F H _ h
    by_cases he : e = .normal
    · subst he
      obtain ⟨e, F', H', h3, h4⟩ := runL_sound hC hcall l hd.2 F1 H1 K h1
      refine ⟨e, F', H', h3, fun M a w hR hF hs hdf Q rest hk => ?_⟩
      refine h2 M a w hR hF hs hdf _ fun M1 a1 w1 hx1 hR1 hK1 hF1 hs1 hd1 => ?_
      exact h4 M1 a1 w1 hR1 hF1 hs1 hd1 Q rest fun M2 a2 w2 hx2 hR2 hK2 hF2 hs2 hd2 => hk M2 a2 w2 (hx1.trans hK1.size hx2) hR2 (hK1.trans hx1 hK2) hF2 hs2 hd2
    · refine ⟨e, F1, H1, by cases e <;> first | exact h1 | exact absurd rfl he, fun M a w hR hF hs hdf Q rest hk => ?_⟩
      refine h2 M a w hR hF hs hdf _ fun M1 a1 w1 hx1 hR1 hK1 hF1 hs1 hd1 => ?_
      have := hk M1 a1 w1 hx1 hR1 hK1 hF1 hs1 hd1
      cases e <;> first | exact this | exact absurd rfl he
/-! ### A world in which something is told: blocks from B on are the call's own -/
structure At (B : Nat) (w0 : World) (lo n : Nat) (M : Mp) (F : Fr) (H : Heap) (a : Act) (w : World) : Prop where
  rel : Rel lo M H w
  fr : FR M F a.tmps
  size : a.tmps.size = n
  defers : a.defers = []
  below : Below B w0 w
  base : B ≤ w.heap.size
  own : ∀ (i : Nat) (p : Pl), lo ≤ i → M.pl[i]? = some p → B ≤ p.1
theorem At.step {B : Nat} {w0 : World} {lo n : Nat} {M : Mp} {F F' : Fr} {H H' : Heap} {a a' : Act} {w w' : World} {M' : Mp} (h : At B w0 lo n M F H a w) (hx : Ext lo M w M') (hR : Rel lo M' H' w') (hK : Keep lo M w w') (hF : FR M' F' a'.tmps) (hs : a'.tmps.size = n) (hd : a'.defers = []) :
    At B w0 lo n M' F' H' a' w' :=
  ⟨hR, hF, hs, hd, h.below.trans ⟨hK.os, hK.tape, hK.output, hK.size, fun k hk => hK.block k (Nat.lt_of_lt_of_le hk h.base) fun i p hi e => by have := h.own i p hi e; omega⟩, Nat.le_trans h.base hK.size, fun i p hi e => by
    rcases Nat.lt_or_ge i M.pl.length with hl | hl
    · obtain ⟨q, hq⟩ : ∃ q, M.pl[i]? = some q := ⟨M.pl[i], List.getElem?_eq_getElem hl⟩
      have := hx.le.at_ i q hq; rw [this] at e; cases e; exact h.own i _ hi hq
    · rcases hx.new i p hl e with h1 | ⟨j, q, h1, h2, h3⟩
      · exact Nat.le_trans h.base h1
      · rw [← h3]; exact h.own j q h1 h2⟩
theorem RowOK.at_ {P : Program} {lo n : Nat} {l : List Code} {F F' : Fr} {H H' : Heap} {e : Exit} (h : RowOK P lo n l F H e F' H') {B : Nat} {w0 : World} {M : Mp} {a : Act} {w : World} (ha : At B w0 lo n M F H a w) {Q : Exit → Act → World → Prop} (rest : List Code)
    (hk : ∀ M' a' w', Le M M' → At B w0 lo n M' F' H' a' w' → Exit.then (wpL P Q rest) Q e a' w') : wpL P Q (l ++ rest) a w :=
  h M a w ha.rel ha.fr ha.size ha.defers Q rest fun M' a' w' hx hR hK hF hs hd => hk M' a' w' hx.le (ha.step hx hR hK hF hs hd)
theorem CodeOK.at_ {P : Program} {lo n : Nat} {c : Code} {F F' : Fr} {H H' : Heap} {e : Exit} (h : CodeOK P lo n c F H e F' H') {B : Nat} {w0 : World} {M : Mp} {a : Act} {w : World} (ha : At B w0 lo n M F H a w) {Q : Exit → Act → World → Prop}
    (hk : ∀ M' a' w', Le M M' → At B w0 lo n M' F' H' a' w' → Q e a' w') : c.wp P Q a w :=
  h M a w ha.rel ha.fr ha.size ha.defers Q fun M' a' w' hx hR hK hF hs hd => hk M' a' w' hx.le (ha.step hx hR hK hF hs hd)
end Go.Proofs.YtgkicojmgokinaaGreatDoor.Ab
