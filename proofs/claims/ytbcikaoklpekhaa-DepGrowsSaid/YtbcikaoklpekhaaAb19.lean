/- The abstract run, nineteenth part: told pieces put together from a base on: behind the base's blocks all may be numbered anew at each step. -/
import Derived.Test.YtbcikaoklpekhaaAb18
namespace Go.Proofs.Ytbcikaoklpekhaa.Ab
open Go Go.RowKit
set_option linter.unusedVariables false
set_option linter.unusedSimpArgs false
/-- A row of pieces, told from a base of so many blocks on. -/
def GoOK (P : Program) (lo base n : Nat) (l : List Code) (F : Fr) (H : Heap) (e : Exit) (F' : Fr) (H' : Heap) : Prop :=
  ∀ (M0 : Mp) (w0 : World) (M : Mp) (a : Act) (w : World), M0.pl.length = base → AtG lo M0 w0 n M F H a w → ∀ (Q : Exit → Act → World → Prop) (rest : List Code),
    (∀ M' a' w', AtG lo M0 w0 n M' F' H' a' w' → Exit.then (wpL P Q rest) Q e a' w') → wpL P Q (l ++ rest) a w
/-- The same of one code. -/
def GcOK (P : Program) (lo base n : Nat) (c : Code) (F : Fr) (H : Heap) (e : Exit) (F' : Fr) (H' : Heap) : Prop :=
  ∀ (M0 : Mp) (w0 : World) (M : Mp) (a : Act) (w : World), M0.pl.length = base → AtG lo M0 w0 n M F H a w → ∀ (Q : Exit → Act → World → Prop),
    (∀ M' a' w', AtG lo M0 w0 n M' F' H' a' w' → Q e a' w') → c.wp P Q a w
section
variable {P : Program} {lo base n : Nat} {F F1 F2 F' : Fr} {H H1 H2 H' : Heap} {e : Exit}
theorem RowOK.go {l : List Code} (h : RowOK P lo n l F H e F' H') : GoOK P lo base n l F H e F' H' :=
  fun M0 w0 M a w _ ha Q rest hk => h.atG ha rest hk
theorem GoOK.app {l l' : List Code} (h : GoOK P lo base n l F H .normal F1 H1) (k : GoOK P lo base n l' F1 H1 e F' H') : GoOK P lo base n (l ++ l') F H e F' H' := by
  intro M0 w0 M a w hb ha Q rest hk
  rw [List.append_assoc]
  exact h M0 w0 M a w hb ha Q (l' ++ rest) fun M1 a1 w1 h1 => k M0 w0 M1 a1 w1 hb h1 Q rest hk
theorem GoOK.left {l : List Code} (h : GoOK P lo base n l F H e F' H') (he : e ≠ .normal) (l' : List Code) : GoOK P lo base n (l ++ l') F H e F' H' := by
  intro M0 w0 M a w hb ha Q rest hk
  rw [List.append_assoc]
  refine h M0 w0 M a w hb ha Q (l' ++ rest) fun M1 a1 w1 h1 => ?_
  have := hk M1 a1 w1 h1
  cases e <;> first | exact absurd rfl he | exact this
theorem GoOK.code {c : Code} (h : GoOK P lo base n (flat c) F H e F' H') : GcOK P lo base n c F H e F' H' := by
  intro M0 w0 M a w hb ha Q hk
  refine wp_of_flat ?_
  have := h M0 w0 M a w hb ha Q [] fun M1 a1 w1 h1 => by
    have := hk M1 a1 w1 h1
    cases e <;> exact this
  rwa [List.append_nil] at this
theorem GcOK.row {c : Code} (h : GcOK P lo base n c F H e F' H') : GoOK P lo base n [c] F H e F' H' :=
  fun M0 w0 M a w hb ha Q rest hk => h M0 w0 M a w hb ha _ hk
theorem GcOK.block {id : Nat} {c : Code} (h : GcOK P lo base n c F H e F' H') : GcOK P lo base n (.block id c) F H (outOf id e) F' H' := by
  intro M0 w0 M a w hb ha Q hk
  refine wp_block (h M0 w0 M a w hb ha _ fun M1 a1 w1 h1 => ?_)
  have := hk M1 a1 w1 h1
  cases e with
  | exit i =>
    simp only [outOf, Exit.inBlock] at this ⊢
    split at this
    · rename_i hi; rw [if_pos hi]; exact this
    · rename_i hi; rw [if_neg hi]; exact this
  | _ => exact this
theorem GcOK.cond {t : Tmp} {b : Bool} {x y : Code} (hb : F.get t = some (.bool b)) (h : GcOK P lo base n (bif b then x else y) F H e F' H') : GcOK P lo base n (.cond (.tmp t) x y) F H e F' H' := by
  intro M0 w0 M a w hbs ha Q hk
  have e1 : a.eval (.tmp t) = .bool b := by
    have hv := arg_sound (x := .tmp t) ha.fr hb
    generalize a.eval (.tmp t) = u at hv
    cases hv; rfl
  cases b with
  | true => exact wp_cond_true e1 (h M0 w0 M a w hbs ha Q hk)
  | false => exact wp_cond_false e1 (h M0 w0 M a w hbs ha Q hk)
theorem GcOK.loop {c : Code} (F : Nat → Fr) (H : Nat → Heap) (m : Nat) (he : e ≠ .normal) (hs : ∀ k, k < m → GcOK P lo base n c (F k) (H k) .normal (F (k + 1)) (H (k + 1))) (hend : GcOK P lo base n c (F m) (H m) e F' H') : GcOK P lo base n (.loop c) (F 0) (H 0) e F' H' := by
  intro M0 w0 M a w hb ha Q hk
  have key : ∀ (d k : Nat), k + d = m → ∀ (M : Mp) (a : Act) (w : World), AtG lo M0 w0 n M (F k) (H k) a w → Code.rounds P c Q (d + 1) a w := by
    intro d
    induction d with
    | zero =>
      intro k hkm M a w ha
      obtain rfl : k = m := by omega
      rw [rounds_succ]
      exact hend M0 w0 M a w hb ha _ fun M1 a1 w1 h1 => by
        have := hk M1 a1 w1 h1
        cases e <;> first | exact this | exact absurd rfl he
    | succ d ih =>
      intro k hkm M a w ha
      rw [rounds_succ]
      exact hs k (by omega) M0 w0 M a w hb ha _ fun M1 a1 w1 h1 => ih (k + 1) (by omega) M1 a1 w1 h1
  exact wp_loop_rounds (m + 1) (key m 0 (by omega) M a w ha)
/-- Told anew: behind the base the blocks under new numbers. -/
theorem GoOK.retell {l : List Code} (h : GoOK P lo base n l F H e F1 H1) (sel : List Nat) (hk : ∀ i, i < base → sel[i]? = some i) (hsel : ∀ s ∈ sel, s < H1.length)
    (hnd : ∀ (i j s : Nat), sel[i]? = some s → sel[j]? = some s → i = j) (hlo : ∀ (i s : Nat), sel[i]? = some s → lo ≤ i → lo ≤ s) (hl : H2.length = sel.length)
    (hb : ∀ (i : Nat) (b' : Blk), H2[i]? = some (some b') → ∃ s b, sel[i]? = some s ∧ H1[s]? = some (some b) ∧ b'.elem = b.elem ∧ b'.view = none ∧ b'.cells.length ≤ b.cells.length ∧ ∀ (M : Mp) us, M.pl.length = H1.length → VRs M b.cells us → VRs (selM M sel) b'.cells (us.take b'.cells.length))
    (hF : ∀ e ∈ F2, ∃ v, F1.get e.1 = some v ∧ ∀ (M : Mp) u, M.pl.length = H1.length → VR M v u → VR (selM M sel) e.2 u) : GoOK P lo base n l F H e F2 H2 := by
  intro M0 w0 M a w hbs ha Q rest hq
  refine h M0 w0 M a w hbs ha Q rest fun M1 a1 w1 hA => ?_
  have hl1 := hA.rel.len
  exact hq _ a1 w1 (hA.retell (F' := F2) (H' := H2) sel (fun i hi => hk i (by rw [← hbs]; exact hi)) (fun s hs => by rw [hl1]; exact hsel s hs) hnd hlo hl
    (fun i b' e => let ⟨s, b, a1, a2, a3, a4, a5, a6⟩ := hb i b' e; ⟨s, b, a1, a2, a3, a4, a5, fun us hu => a6 M1 us hl1 hu⟩)
    (fun e he => let ⟨v, a1, a2⟩ := hF e he; ⟨v, a1, fun u hu => a2 M1 u hl1 hu⟩))
/-- A call, by its body told so: the base is what is told at the call. -/
theorem CallOK.of_go {C : Ctx} (hC : CtxOK P C) {f : Nat} {fn : Func} {c : Code} {args l : List Value} (hfn : C.Fn f = some fn) (hc : fn.body = some c) (hle : args.length ≤ fn.ntmps)
    (h : GcOK P lo H.length fn.ntmps c (enterF 0 args) H e F' H') (he : e = .normal ∨ e = .ret) (hr : resA C.T F' H' fn.results.toList = some l) : CallOK P lo f args H (tupleA l) H' := by
  obtain ⟨hf1, hf2, hf3⟩ := hC.fn f fn hfn
  intro M w rargs hR hv
  refine calls_of_wp hf1 hc ?_
  have hrl : rargs.length ≤ fn.ntmps := by rw [← hv.length]; exact hle
  refine h M w M _ w hR.len ⟨hR, enterF_FR hv _, by simp; omega, rfl, Ext.refl _ _ _, Keep.refl _ _ _⟩ _ fun M' a' w' hA => ?_
  obtain ⟨rv, h3, h4⟩ := results_sound hC hA.rel hA.fr hr
  rcases he with rfl | rfl
  · exact ⟨hA.defers, rv, h4, M', rv, rfl, h3, hA.ext, hA.rel, hA.keep⟩
  · exact ⟨hA.defers, rv, h4, M', rv, rfl, h3, hA.ext, hA.rel, hA.keep⟩
end
end Go.Proofs.Ytbcikaoklpekhaa.Ab
