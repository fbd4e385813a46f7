/- A call by its body told in pieces; what Program answers to a row in which one text is none. -/
import Derived.Test.YtgkicojmgokinaaGreatDoorAsmProg
namespace Go.Proofs.YtgkicojmgokinaaGreatDoor.Ab
open Go Go.RowKit
set_option linter.unusedVariables false
set_option linter.unusedSimpArgs false
/-- A call, by its body told in pieces, of a function of the program. -/
theorem CallOK.of_go2 {C : Ctx} {P : Program} {lo : Nat} {H H' : Heap} {F' : Fr} {e : Exit} (hC : CtxOK P C) {f : Nat} {fn : Func} {c : Code} {args l : List Value} (hf1 : P.funcs[f]? = some fn) (hc : fn.body = some c) (hle : args.length ≤ fn.ntmps)
    (h : GcOK P lo H.length fn.ntmps c (enterF 0 args) H e F' H') (he : e = .normal ∨ e = .ret) (hr : resA C.T F' H' fn.results.toList = some l) : CallOK P lo f args H (tupleA l) H' := by
  intro M w rargs hR hv
  refine calls_of_wp hf1 hc ?_
  have hrl : rargs.length ≤ fn.ntmps := by rw [← hv.length]; exact hle
  refine h M w M _ w hR.len ⟨hR, enterF_FR hv _, by simp; omega, rfl, Ext.refl _ _ _, Keep.refl _ _ _⟩ _ fun M' a' w' hA => ?_
  obtain ⟨rv, h3, h4⟩ := results_sound hC hA.rel hA.fr hr
  rcases he with rfl | rfl
  · exact ⟨hA.defers, rv, h4, M', rv, rfl, h3, hA.ext, hA.rel, hA.keep⟩
  · exact ⟨hA.defers, rv, h4, M', rv, rfl, h3, hA.ext, hA.rel, hA.keep⟩
def bodyIn (fn : Func) : Code := match fn.body with | some c => c | none => .skip
theorem bodyIn_eq {fn : Func} (h : fn.body.isSome = true) : fn.body = some (bodyIn fn) := by
  unfold bodyIn
  cases hb : fn.body with
  | none => rw [hb] at h; cases h
  | some c => rfl
def opsIn : Option Code → Array Oper
  | some (.region _ ops _) => ops
  | _ => #[]
noncomputable def isBad (v : Value) (k : Int) : Bool := @decide (CallOK Tryz.prog 0 17 [v] [] (.tuple #[nilV, .iface 89 (ptr 0)]) [some ⟨prE k, 91, none⟩]) (Classical.propDecidable _)
end Go.Proofs.YtgkicojmgokinaaGreatDoor.Ab
