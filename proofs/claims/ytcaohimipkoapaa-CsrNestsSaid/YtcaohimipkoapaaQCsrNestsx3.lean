-- Laid by a program of this session (wip/tpl/mine.sh), out of the program's form in Lean: Lean checks it.
import Derived.Test.YtcaohimipkoapaaQCsrNestsx0
import Derived.Test.YtcaohimipkoapaaQCsrNestsx1
import Derived.Test.YtcaohimipkoapaaQCsrNestsx2
namespace Go.Proofs.Ytcaohimipkoapaa.QCsrNests
open Go.RowKit Go.Proofs.YtcaohimipkoapaaW.PrintWords Go.Proofs.YtcaohimipkoapaaW.PrintLast Go.Proofs.YtcaohimipkoapaaW.PrintMore
attribute [local go_sem] max2_int min2_int max_two min_two max_three min_three max_four min_four   -- for this text's walks alone
set_option linter.unusedVariables false
set_option linter.unusedSimpArgs false

/-! ### corrallaw6_CsrNests: function 9 -/
mutual
def corrallaw6_CsrNests.j0 : Nat → Int → Int → Bool → Bool → Bool → Int → Int → Int → Int → Int → Int → Int → Int → Int → Int → Option (Bool)
  | 0, _, _, _, _, _, _, _, _, _, _, _, _, _, _, _ => none
  | k + 1, x0, x1, x2, x7, x217000, x217001, x217002, x217003, x217004, x217005, x217006, x217007, x217008, x217009, x217010 => (csr_File_Trap.f x217000 x217001 x217002 x217003 x217004 x217005 x217006 x217007 x217008 x217009 x217010 3 0 x0).bind fun bt229 => ((csr_File_Get.f bt229.2.1 bt229.2.2.1 bt229.2.2.2.1 bt229.2.2.2.2.1 bt229.2.2.2.2.2.1 bt229.2.2.2.2.2.2.1 bt229.2.2.2.2.2.2.2.1 bt229.2.2.2.2.2.2.2.2.1 bt229.2.2.2.2.2.2.2.2.2.1 bt229.2.2.2.2.2.2.2.2.2.2.1 bt229.2.2.2.2.2.2.2.2.2.2.2 833).bind fun bt241 => ((csr_File_Get.f bt241.2.2.1 bt241.2.2.2.1 bt241.2.2.2.2.1 bt241.2.2.2.2.2.1 bt241.2.2.2.2.2.2.1 bt241.2.2.2.2.2.2.2.1 bt241.2.2.2.2.2.2.2.2.1 bt241.2.2.2.2.2.2.2.2.2.1 bt241.2.2.2.2.2.2.2.2.2.2.1 bt241.2.2.2.2.2.2.2.2.2.2.2.1 bt241.2.2.2.2.2.2.2.2.2.2.2.2 768).bind fun bt254 => ((csr_File_Trap.f bt254.2.2.1 bt254.2.2.2.1 bt254.2.2.2.2.1 bt254.2.2.2.2.2.1 bt254.2.2.2.2.2.2.1 bt254.2.2.2.2.2.2.2.1 bt254.2.2.2.2.2.2.2.2.1 bt254.2.2.2.2.2.2.2.2.2.1 bt254.2.2.2.2.2.2.2.2.2.2.1 bt254.2.2.2.2.2.2.2.2.2.2.2.1 bt254.2.2.2.2.2.2.2.2.2.2.2.2 5 1 x1).bind fun bt267 => ((csr_File_Get.f bt267.2.1 bt267.2.2.1 bt267.2.2.2.1 bt267.2.2.2.2.1 bt267.2.2.2.2.2.1 bt267.2.2.2.2.2.2.1 bt267.2.2.2.2.2.2.2.1 bt267.2.2.2.2.2.2.2.2.1 bt267.2.2.2.2.2.2.2.2.2.1 bt267.2.2.2.2.2.2.2.2.2.2.1 bt267.2.2.2.2.2.2.2.2.2.2.2 833).bind fun bt279 => ((csr_File_Get.f bt279.2.2.1 bt279.2.2.2.1 bt279.2.2.2.2.1 bt279.2.2.2.2.2.1 bt279.2.2.2.2.2.2.1 bt279.2.2.2.2.2.2.2.1 bt279.2.2.2.2.2.2.2.2.1 bt279.2.2.2.2.2.2.2.2.2.1 bt279.2.2.2.2.2.2.2.2.2.2.1 bt279.2.2.2.2.2.2.2.2.2.2.2.1 bt279.2.2.2.2.2.2.2.2.2.2.2.2 768).bind fun bt292 => (if bt241.1 = (Go.bits .andNot .u32 x0 3) then (if bt279.1 = (Go.bits .andNot .u32 x1 3) then (if bt292.1 = 6144 then (corrallaw6_CsrNests.j1 k x0 x1 x2 x7 bt241.1 bt254.1 ((bt254.1 == 6272) != x2) bt292.2.2.1 bt292.2.2.2.1 bt292.2.2.2.2.1 bt292.2.2.2.2.2.1 bt292.2.2.2.2.2.2.1 bt292.2.2.2.2.2.2.2.1 bt292.2.2.2.2.2.2.2.2.1 bt292.2.2.2.2.2.2.2.2.2.1 bt292.2.2.2.2.2.2.2.2.2.2.1 bt292.2.2.2.2.2.2.2.2.2.2.2.1 bt292.2.2.2.2.2.2.2.2.2.2.2.2) else (corrallaw6_CsrNests.j1 k x0 x1 x2 x7 bt241.1 bt254.1 true bt292.2.2.1 bt292.2.2.2.1 bt292.2.2.2.2.1 bt292.2.2.2.2.2.1 bt292.2.2.2.2.2.2.1 bt292.2.2.2.2.2.2.2.1 bt292.2.2.2.2.2.2.2.2.1 bt292.2.2.2.2.2.2.2.2.2.1 bt292.2.2.2.2.2.2.2.2.2.2.1 bt292.2.2.2.2.2.2.2.2.2.2.2.1 bt292.2.2.2.2.2.2.2.2.2.2.2.2)) else (corrallaw6_CsrNests.j1 k x0 x1 x2 x7 bt241.1 bt254.1 true bt292.2.2.1 bt292.2.2.2.1 bt292.2.2.2.2.1 bt292.2.2.2.2.2.1 bt292.2.2.2.2.2.2.1 bt292.2.2.2.2.2.2.2.1 bt292.2.2.2.2.2.2.2.2.1 bt292.2.2.2.2.2.2.2.2.2.1 bt292.2.2.2.2.2.2.2.2.2.2.1 bt292.2.2.2.2.2.2.2.2.2.2.2.1 bt292.2.2.2.2.2.2.2.2.2.2.2.2)) else (corrallaw6_CsrNests.j1 k x0 x1 x2 x7 bt241.1 bt254.1 true bt292.2.2.1 bt292.2.2.2.1 bt292.2.2.2.2.1 bt292.2.2.2.2.2.1 bt292.2.2.2.2.2.2.1 bt292.2.2.2.2.2.2.2.1 bt292.2.2.2.2.2.2.2.2.1 bt292.2.2.2.2.2.2.2.2.2.1 bt292.2.2.2.2.2.2.2.2.2.2.1 bt292.2.2.2.2.2.2.2.2.2.2.2.1 bt292.2.2.2.2.2.2.2.2.2.2.2.2)))))))
def corrallaw6_CsrNests.j1 : Nat → Int → Int → Bool → Bool → Int → Int → Bool → Bool → Int → Int → Int → Int → Int → Int → Int → Int → Int → Int → Option (Bool)
  | 0, _, _, _, _, _, _, _, _, _, _, _, _, _, _, _, _, _, _ => none
  | k + 1, x0, x1, x2, x7, x9, x11, x65, x217000, x217001, x217002, x217003, x217004, x217005, x217006, x217007, x217008, x217009, x217010 => if x65 = true then (some false) else ((csr_File_Return.f x217000 x217001 x217002 x217003 x217004 x217005 x217006 x217007 x217008 x217009 x217010).bind fun bt305 => (if bt305.1 = (Go.bits .andNot .u32 x1 3) then ((csr_File_Set.f bt305.2.1 bt305.2.2.1 bt305.2.2.2.1 bt305.2.2.2.2.1 bt305.2.2.2.2.2.1 bt305.2.2.2.2.2.2.1 bt305.2.2.2.2.2.2.2.1 bt305.2.2.2.2.2.2.2.2.1 bt305.2.2.2.2.2.2.2.2.2.1 bt305.2.2.2.2.2.2.2.2.2.2.1 bt305.2.2.2.2.2.2.2.2.2.2.2 833 x9).bind fun bt317 => ((csr_File_Set.f bt317.2.1 bt317.2.2.1 bt317.2.2.2.1 bt317.2.2.2.2.1 bt317.2.2.2.2.2.1 bt317.2.2.2.2.2.2.1 bt317.2.2.2.2.2.2.2.1 bt317.2.2.2.2.2.2.2.2.1 bt317.2.2.2.2.2.2.2.2.2.1 bt317.2.2.2.2.2.2.2.2.2.2.1 bt317.2.2.2.2.2.2.2.2.2.2.2 768 x11).bind fun bt329 => ((csr_File_Return.f bt329.2.1 bt329.2.2.1 bt329.2.2.2.1 bt329.2.2.2.2.1 bt329.2.2.2.2.2.1 bt329.2.2.2.2.2.2.1 bt329.2.2.2.2.2.2.2.1 bt329.2.2.2.2.2.2.2.2.1 bt329.2.2.2.2.2.2.2.2.2.1 bt329.2.2.2.2.2.2.2.2.2.2.1 bt329.2.2.2.2.2.2.2.2.2.2.2).bind fun bt341 => ((csr_File_Get.f bt341.2.1 bt341.2.2.1 bt341.2.2.2.1 bt341.2.2.2.2.1 bt341.2.2.2.2.2.1 bt341.2.2.2.2.2.2.1 bt341.2.2.2.2.2.2.2.1 bt341.2.2.2.2.2.2.2.2.1 bt341.2.2.2.2.2.2.2.2.2.1 bt341.2.2.2.2.2.2.2.2.2.2.1 bt341.2.2.2.2.2.2.2.2.2.2.2 768).bind fun bt353 => (if x7 = true then (if bt341.1 = (Go.bits .andNot .u32 x0 3) then (if (((Go.bits .and .u32 bt353.1 8) != 0) == x2) = true then ((csr_File_Mode.f bt353.2.2.1 bt353.2.2.2.1 bt353.2.2.2.2.1 bt353.2.2.2.2.2.1 bt353.2.2.2.2.2.2.1 bt353.2.2.2.2.2.2.2.1 bt353.2.2.2.2.2.2.2.2.1 bt353.2.2.2.2.2.2.2.2.2.1 bt353.2.2.2.2.2.2.2.2.2.2.1 bt353.2.2.2.2.2.2.2.2.2.2.2.1 bt353.2.2.2.2.2.2.2.2.2.2.2.2).bind fun bt366 => (some (bt366.1 == 3))) else (some false)) else (some false)) else (some false)))))) else (some false)))
end
def corrallaw6_CsrNests.f (k : Nat) (a0 : Int) (a1 : Int) (a2 : Bool) : Option (Bool) := (corrallaw6_first.f).bind fun t204 => (if t204 = true then ((csr_New.f 0).bind fun bt205 => (if a2 = true then ((csr_File_Set.f bt205.1 bt205.2.1 bt205.2.2.1 bt205.2.2.2.1 bt205.2.2.2.2.1 bt205.2.2.2.2.2.1 bt205.2.2.2.2.2.2.1 bt205.2.2.2.2.2.2.2.1 bt205.2.2.2.2.2.2.2.2.1 bt205.2.2.2.2.2.2.2.2.2.1 bt205.2.2.2.2.2.2.2.2.2.2 768 8).bind fun bt217 => (corrallaw6_CsrNests.j0 k a0 a1 a2 t204 bt217.2.1 bt217.2.2.1 bt217.2.2.2.1 bt217.2.2.2.2.1 bt217.2.2.2.2.2.1 bt217.2.2.2.2.2.2.1 bt217.2.2.2.2.2.2.2.1 bt217.2.2.2.2.2.2.2.2.1 bt217.2.2.2.2.2.2.2.2.2.1 bt217.2.2.2.2.2.2.2.2.2.2.1 bt217.2.2.2.2.2.2.2.2.2.2.2)) else (corrallaw6_CsrNests.j0 k a0 a1 a2 t204 bt205.1 bt205.2.1 bt205.2.2.1 bt205.2.2.2.1 bt205.2.2.2.2.1 bt205.2.2.2.2.2.1 bt205.2.2.2.2.2.2.1 bt205.2.2.2.2.2.2.2.1 bt205.2.2.2.2.2.2.2.2.1 bt205.2.2.2.2.2.2.2.2.2.1 bt205.2.2.2.2.2.2.2.2.2.2))) else (some false))
theorem corrallaw6_CsrNests.mono_l : ∀ k, (∀ y0 y1 y2 y3 y4 y5 y6 y7 y8 y9 y10 y11 y12 y13 y14, LeO (corrallaw6_CsrNests.j0 k y0 y1 y2 y3 y4 y5 y6 y7 y8 y9 y10 y11 y12 y13 y14) (corrallaw6_CsrNests.j0 (k + 1) y0 y1 y2 y3 y4 y5 y6 y7 y8 y9 y10 y11 y12 y13 y14)) ∧ (∀ y0 y1 y2 y3 y4 y5 y6 y7 y8 y9 y10 y11 y12 y13 y14 y15 y16 y17, LeO (corrallaw6_CsrNests.j1 k y0 y1 y2 y3 y4 y5 y6 y7 y8 y9 y10 y11 y12 y13 y14 y15 y16 y17) (corrallaw6_CsrNests.j1 (k + 1) y0 y1 y2 y3 y4 y5 y6 y7 y8 y9 y10 y11 y12 y13 y14 y15 y16 y17))
  | 0 => ⟨fun _ _ _ _ _ _ _ _ _ _ _ _ _ _ _ r h => by simp [corrallaw6_CsrNests.j0] at h, fun _ _ _ _ _ _ _ _ _ _ _ _ _ _ _ _ _ _ r h => by simp [corrallaw6_CsrNests.j1] at h⟩
  | k + 1 => by
    obtain ⟨ih0, ih1⟩ := corrallaw6_CsrNests.mono_l k
    refine ⟨?_, ?_⟩
    · intro y0 y1 y2 y3 y4 y5 y6 y7 y8 y9 y10 y11 y12 y13 y14
      unfold corrallaw6_CsrNests.j0
      repeat' first
      | (with_reducible exact ih0 _ _ _ _ _ _ _ _ _ _ _ _ _ _ _)
      | (with_reducible exact ih1 _ _ _ _ _ _ _ _ _ _ _ _ _ _ _ _ _ _)
      | (with_reducible exact LeO.refl _)
      | (with_reducible exact LeO.none _)
      | (with_reducible refine LeO.ite ?_ ?_)
      | (with_reducible refine LeO.bind ?_ (fun _ => ?_))
      | exact ih0 _ _ _ _ _ _ _ _ _ _ _ _ _ _ _
      | exact ih1 _ _ _ _ _ _ _ _ _ _ _ _ _ _ _ _ _ _
      | exact LeO.none _
      | refine LeO.ite ?_ ?_
      | refine LeO.bind ?_ (fun _ => ?_)
    · intro y0 y1 y2 y3 y4 y5 y6 y7 y8 y9 y10 y11 y12 y13 y14 y15 y16 y17
      unfold corrallaw6_CsrNests.j1
      repeat' first
      | (with_reducible exact ih0 _ _ _ _ _ _ _ _ _ _ _ _ _ _ _)
      | (with_reducible exact ih1 _ _ _ _ _ _ _ _ _ _ _ _ _ _ _ _ _ _)
      | (with_reducible exact LeO.refl _)
      | (with_reducible exact LeO.none _)
      | (with_reducible refine LeO.ite ?_ ?_)
      | (with_reducible refine LeO.bind ?_ (fun _ => ?_))
      | exact ih0 _ _ _ _ _ _ _ _ _ _ _ _ _ _ _
      | exact ih1 _ _ _ _ _ _ _ _ _ _ _ _ _ _ _ _ _ _
      | exact LeO.none _
      | refine LeO.ite ?_ ?_
      | refine LeO.bind ?_ (fun _ => ?_)
theorem corrallaw6_CsrNests.mono : ∀ a0 a1 a2 k, LeO (corrallaw6_CsrNests.f k a0 a1 a2) (corrallaw6_CsrNests.f (k + 1) a0 a1 a2) := by
  intro a0 a1 a2 k
  obtain ⟨ih0, ih1⟩ := corrallaw6_CsrNests.mono_l k
  unfold corrallaw6_CsrNests.f
  repeat' first
      | (with_reducible exact ih0 _ _ _ _ _ _ _ _ _ _ _ _ _ _ _)
      | (with_reducible exact ih1 _ _ _ _ _ _ _ _ _ _ _ _ _ _ _ _ _ _)
      | (with_reducible exact LeO.refl _)
      | (with_reducible exact LeO.none _)
      | (with_reducible refine LeO.ite ?_ ?_)
      | (with_reducible refine LeO.bind ?_ (fun _ => ?_))
      | exact ih0 _ _ _ _ _ _ _ _ _ _ _ _ _ _ _
      | exact ih1 _ _ _ _ _ _ _ _ _ _ _ _ _ _ _ _ _ _
      | exact LeO.none _
      | refine LeO.ite ?_ ?_
      | refine LeO.bind ?_ (fun _ => ?_)
set_option maxHeartbeats 8000000 in
set_option maxRecDepth 100000 in
theorem corrallaw6_CsrNests.calls (k : Nat) (a0 : Int) (a1 : Int) (a2 : Bool) (r : Bool) (w : World) (h : corrallaw6_CsrNests.f k a0 a1 a2 = some r) (hrtrue : r = true) :
    Calls Try.prog 9 #[.int .u32 a0, .int .u32 a1, .bool a2] w fun e w' => e = .returned (.bool r) ∧ Below w.heap.size w w' := by
  have hu38 := Try.underlying38
  have HB := Aside0.mk (Below.refl w.heap.size w)
  have H : ((corrallaw6_first.f).bind fun t204 => (if t204 = true then ((csr_New.f 0).bind fun bt205 => (if a2 = true then ((csr_File_Set.f bt205.1 bt205.2.1 bt205.2.2.1 bt205.2.2.2.1 bt205.2.2.2.2.1 bt205.2.2.2.2.2.1 bt205.2.2.2.2.2.2.1 bt205.2.2.2.2.2.2.2.1 bt205.2.2.2.2.2.2.2.2.1 bt205.2.2.2.2.2.2.2.2.2.1 bt205.2.2.2.2.2.2.2.2.2.2 768 8).bind fun bt217 => (corrallaw6_CsrNests.j0 k a0 a1 a2 t204 bt217.2.1 bt217.2.2.1 bt217.2.2.2.1 bt217.2.2.2.2.1 bt217.2.2.2.2.2.1 bt217.2.2.2.2.2.2.1 bt217.2.2.2.2.2.2.2.1 bt217.2.2.2.2.2.2.2.2.1 bt217.2.2.2.2.2.2.2.2.2.1 bt217.2.2.2.2.2.2.2.2.2.2.1 bt217.2.2.2.2.2.2.2.2.2.2.2)) else (corrallaw6_CsrNests.j0 k a0 a1 a2 t204 bt205.1 bt205.2.1 bt205.2.2.1 bt205.2.2.2.1 bt205.2.2.2.2.1 bt205.2.2.2.2.2.1 bt205.2.2.2.2.2.2.1 bt205.2.2.2.2.2.2.2.1 bt205.2.2.2.2.2.2.2.2.1 bt205.2.2.2.2.2.2.2.2.2.1 bt205.2.2.2.2.2.2.2.2.2.2))) else (some false))) = some r := h
  clear h
  have HRT := Aside0.mk hrtrue
  clear hrtrue
  replace H := Option.bind_eq_some_iff.mp H
  obtain ⟨t204, A40, H⟩ := H
  replace H : (if t204 = true then ((csr_New.f 0).bind fun bt205 => (if a2 = true then ((csr_File_Set.f bt205.1 bt205.2.1 bt205.2.2.1 bt205.2.2.2.1 bt205.2.2.2.2.1 bt205.2.2.2.2.2.1 bt205.2.2.2.2.2.2.1 bt205.2.2.2.2.2.2.2.1 bt205.2.2.2.2.2.2.2.2.1 bt205.2.2.2.2.2.2.2.2.2.1 bt205.2.2.2.2.2.2.2.2.2.2 768 8).bind fun bt217 => (corrallaw6_CsrNests.j0 k a0 a1 a2 t204 bt217.2.1 bt217.2.2.1 bt217.2.2.2.1 bt217.2.2.2.2.1 bt217.2.2.2.2.2.1 bt217.2.2.2.2.2.2.1 bt217.2.2.2.2.2.2.2.1 bt217.2.2.2.2.2.2.2.2.1 bt217.2.2.2.2.2.2.2.2.2.1 bt217.2.2.2.2.2.2.2.2.2.2.1 bt217.2.2.2.2.2.2.2.2.2.2.2)) else (corrallaw6_CsrNests.j0 k a0 a1 a2 t204 bt205.1 bt205.2.1 bt205.2.2.1 bt205.2.2.2.1 bt205.2.2.2.2.1 bt205.2.2.2.2.2.1 bt205.2.2.2.2.2.2.1 bt205.2.2.2.2.2.2.2.1 bt205.2.2.2.2.2.2.2.2.1 bt205.2.2.2.2.2.2.2.2.2.1 bt205.2.2.2.2.2.2.2.2.2.2))) else (some false)) = some r := H
  have A4 := Aside0.mk A40
  clear A40
  by_cases c5 : t204 = true
  · subst c5
    have H1 : ((csr_New.f 0).bind fun bt205 => (if a2 = true then ((csr_File_Set.f bt205.1 bt205.2.1 bt205.2.2.1 bt205.2.2.2.1 bt205.2.2.2.2.1 bt205.2.2.2.2.2.1 bt205.2.2.2.2.2.2.1 bt205.2.2.2.2.2.2.2.1 bt205.2.2.2.2.2.2.2.2.1 bt205.2.2.2.2.2.2.2.2.2.1 bt205.2.2.2.2.2.2.2.2.2.2 768 8).bind fun bt217 => (corrallaw6_CsrNests.j0 k a0 a1 a2 true bt217.2.1 bt217.2.2.1 bt217.2.2.2.1 bt217.2.2.2.2.1 bt217.2.2.2.2.2.1 bt217.2.2.2.2.2.2.1 bt217.2.2.2.2.2.2.2.1 bt217.2.2.2.2.2.2.2.2.1 bt217.2.2.2.2.2.2.2.2.2.1 bt217.2.2.2.2.2.2.2.2.2.2.1 bt217.2.2.2.2.2.2.2.2.2.2.2)) else (corrallaw6_CsrNests.j0 k a0 a1 a2 true bt205.1 bt205.2.1 bt205.2.2.1 bt205.2.2.2.1 bt205.2.2.2.2.1 bt205.2.2.2.2.2.1 bt205.2.2.2.2.2.2.1 bt205.2.2.2.2.2.2.2.1 bt205.2.2.2.2.2.2.2.2.1 bt205.2.2.2.2.2.2.2.2.2.1 bt205.2.2.2.2.2.2.2.2.2.2))) = some r := by rw [if_pos rfl] at H; exact H
    clear H
    have H := H1
    clear H1
    replace H := Option.bind_eq_some_iff.mp H
    obtain ⟨⟨t205, t206, t207, t208, t209, t210, t211, t212, t213, t214, t215⟩, A60, H⟩ := H
    replace H : (if a2 = true then ((csr_File_Set.f t205 t206 t207 t208 t209 t210 t211 t212 t213 t214 t215 768 8).bind fun bt217 => (corrallaw6_CsrNests.j0 k a0 a1 a2 true bt217.2.1 bt217.2.2.1 bt217.2.2.2.1 bt217.2.2.2.2.1 bt217.2.2.2.2.2.1 bt217.2.2.2.2.2.2.1 bt217.2.2.2.2.2.2.2.1 bt217.2.2.2.2.2.2.2.2.1 bt217.2.2.2.2.2.2.2.2.2.1 bt217.2.2.2.2.2.2.2.2.2.2.1 bt217.2.2.2.2.2.2.2.2.2.2.2)) else (corrallaw6_CsrNests.j0 k a0 a1 a2 true t205 t206 t207 t208 t209 t210 t211 t212 t213 t214 t215)) = some r := H
    have A6 := Aside0.mk A60
    clear A60
    have HC7 := Aside0.mk H
    clear H
    go_enter Try.func9, Try.ntmps9
    go_upto_if 24 with (first | ((with_reducible refine gate_callee (f := 20) rfl ?_); refine goesL_ (some 20) rfl rfl Try.func20 (by kernel_rfl) rfl #[] rfl (by (try simp only [List.map_toArray, List.map_cons, List.map_nil]); first | done | rfl | (simp only [List.length_drop, List.length_take]; rfl)) ?_; (with_reducible refine (corrallaw6_first.calls  true _ A4.out).mono ?_); rintro e w8 ⟨rfl, hb⟩; refine ⟨_, rfl, ?_⟩; have n0_ := Aside0.mk (below_step (by repeat (first | (with_reducible first | exact HB.out | apply below_alloc | apply pw_below_drewN | apply below_drew1) | exact HB.out)) hb); clear HB; have HB := n0_; clear n0_; (try clear hb); (try clear hb2); (try clear hk); (try clear hi)) | ((with_reducible refine gate_callee (f := 21) rfl ?_); refine goesL_ (some 23) rfl rfl Try.func21 (by kernel_rfl) rfl #[.int .i64 0] rfl (by (try simp only [List.map_toArray, List.map_cons, List.map_nil]); first | done | rfl | (simp only [List.length_drop, List.length_take]; rfl)) ?_; (with_reducible refine (csr_New.calls 0 t205 t206 t207 t208 t209 t210 t211 t212 t213 t214 t215 _ A6.out).mono ?_); rintro e w9 ⟨rfl, hb⟩; refine ⟨_, rfl, ?_⟩; have n0_ := Aside0.mk (below_step (by repeat (first | (with_reducible first | exact HB.out | apply below_alloc | apply pw_below_drewN | apply below_drew1) | exact HB.out)) hb); clear HB; have HB := n0_; clear n0_; (try clear hb); (try clear hb2); (try clear hk); (try clear hi)) | ((with_reducible refine gate_dst (N := 8) rfl ?_); refine box_event ?hg (N := 8) ?hd (cs := #[.bool false, .int .u32 0, .int .u32 0, .int .u32 0, .int .u32 0, .int .u32 0, .int .u32 0, .int .u32 0, .int .u32 0, .int .u32 0, .int .u32 0]) (t := 38) ?hr ?_; (case hd => rfl); (case hg => rfl); (case hr => first | (go_simp; done) | (go_simp; rfl)); intro gb216 hg w10 hbox hb; have n0_ := Aside0.mk (below_step (by repeat (first | (with_reducible first | exact HB.out | apply below_alloc | apply pw_below_drewN | apply below_drew1) | exact HB.out)) hb); have n1_ := Aside0.mk (hbox); have n2_ := Aside0.mk ((by rw [hg]; exact (below_size (by repeat (first | (with_reducible first | exact HB.out | apply below_alloc | apply pw_below_drewN | apply below_drew1) | exact HB.out))) : w.heap.size ≤ gb216)); have n3_ := Aside0.mk ((by rw [hg]; exact (below_size (by repeat (first | (with_reducible first | exact HB.out | apply below_alloc | apply pw_below_drewN | apply below_drew1) | exact HB.out))) : w.heap.size ≤ gb216)); clear HB; have HB := n0_; have BK216 := n1_; have GW216 := n2_; have GE216 := n3_; clear n0_ n1_ n2_ n3_; clear hb hbox hg; have hcz11_0 : w10.cell? ⟨gb216, 0, none⟩ = some (.bool false) := (blk_cell BK216.out 0).trans rfl; have hcz11_1 : w10.cell? ⟨gb216, 1, none⟩ = some (.int .u32 0) := (blk_cell BK216.out 1).trans rfl; have hcz11_2 : w10.cell? ⟨gb216, 2, none⟩ = some (.int .u32 0) := (blk_cell BK216.out 2).trans rfl; have hcz11_3 : w10.cell? ⟨gb216, 3, none⟩ = some (.int .u32 0) := (blk_cell BK216.out 3).trans rfl; have hcz11_4 : w10.cell? ⟨gb216, 4, none⟩ = some (.int .u32 0) := (blk_cell BK216.out 4).trans rfl; have hcz11_5 : w10.cell? ⟨gb216, 5, none⟩ = some (.int .u32 0) := (blk_cell BK216.out 5).trans rfl; have hcz11_6 : w10.cell? ⟨gb216, 6, none⟩ = some (.int .u32 0) := (blk_cell BK216.out 6).trans rfl; have hcz11_7 : w10.cell? ⟨gb216, 7, none⟩ = some (.int .u32 0) := (blk_cell BK216.out 7).trans rfl; have hcz11_8 : w10.cell? ⟨gb216, 8, none⟩ = some (.int .u32 0) := (blk_cell BK216.out 8).trans rfl; have hcz11_9 : w10.cell? ⟨gb216, 9, none⟩ = some (.int .u32 0) := (blk_cell BK216.out 9).trans rfl; have hcz11_10 : w10.cell? ⟨gb216, 10, none⟩ = some (.int .u32 0) := (blk_cell BK216.out 10).trans rfl; have hfz11_0 := blk_frozen BK216.out 0; have hfz11_1 := blk_frozen BK216.out 1; have hfz11_2 := blk_frozen BK216.out 2; have hfz11_3 := blk_frozen BK216.out 3; have hfz11_4 := blk_frozen BK216.out 4; have hfz11_5 := blk_frozen BK216.out 5; have hfz11_6 := blk_frozen BK216.out 6; have hfz11_7 := blk_frozen BK216.out 7; have hfz11_8 := blk_frozen BK216.out 8; have hfz11_9 := blk_frozen BK216.out 9; have hfz11_10 := blk_frozen BK216.out 10))
    (try simp only [Act.put, List.setIfInBounds_toArray, List.set_cons_zero, List.set_cons_succ])
    go_cut [] (fun wc => ∃ (kq : Nat) (x217000_6 : Bool) (x217001_6 : Int) (x217002_6 : Int) (x217003_6 : Int) (x217004_6 : Int) (x217005_6 : Int) (x217006_6 : Int) (x217007_6 : Int) (x217008_6 : Int) (x217009_6 : Int) (x217010_6 : Int), Aside0 (corrallaw6_CsrNests.j0 kq a0 a1 a2 true x217000_6 x217001_6 x217002_6 x217003_6 x217004_6 x217005_6 x217006_6 x217007_6 x217008_6 x217009_6 x217010_6 = some r) ∧ Aside0 (kq ≤ k) ∧ Aside0 (wc.heap[gb216]? = some (.cells #[.bool x217000_6, .int .u32 x217001_6, .int .u32 x217002_6, .int .u32 x217003_6, .int .u32 x217004_6, .int .u32 x217005_6, .int .u32 x217006_6, .int .u32 x217007_6, .int .u32 x217008_6, .int .u32 x217009_6, .int .u32 x217010_6] 38 (0, 0))) ∧ Aside0 (Below w.heap.size w wc))
    case first =>
      have H := HC7.out
      clear HC7
      by_cases c12 : a2 = true
      · subst c12
        have H1 : ((csr_File_Set.f t205 t206 t207 t208 t209 t210 t211 t212 t213 t214 t215 768 8).bind fun bt217 => (corrallaw6_CsrNests.j0 k a0 a1 true true bt217.2.1 bt217.2.2.1 bt217.2.2.2.1 bt217.2.2.2.2.1 bt217.2.2.2.2.2.1 bt217.2.2.2.2.2.2.1 bt217.2.2.2.2.2.2.2.1 bt217.2.2.2.2.2.2.2.2.1 bt217.2.2.2.2.2.2.2.2.2.1 bt217.2.2.2.2.2.2.2.2.2.2.1 bt217.2.2.2.2.2.2.2.2.2.2.2)) = some r := by rw [if_pos rfl] at H; exact H
        clear H
        have H := H1
        clear H1
        replace H := Option.bind_eq_some_iff.mp H
        obtain ⟨⟨t217, t218, t219, t220, t221, t222, t223, t224, t225, t226, t227, t228⟩, A130, H⟩ := H
        replace H : (corrallaw6_CsrNests.j0 k a0 a1 true true t218 t219 t220 t221 t222 t223 t224 t225 t226 t227 t228) = some r := H
        have A13 := Aside0.mk A130
        clear A130
        have H' := Aside0.mk H
        clear H
        go_wp2_with (first | ((with_reducible refine gate_callee (f := 22) rfl ?_); refine goesL_ (some 25) rfl rfl Try.func22 (by kernel_rfl) rfl #[.pointer (some ⟨gb216, 0, none⟩), .int .i64 768, .int .u32 8] rfl (by (try simp only [List.map_toArray, List.map_cons, List.map_nil]); first | done | rfl | (simp only [List.length_drop, List.length_take]; rfl)) ?_; (with_reducible refine (csr_File_Set.calls gb216 t205 t206 t207 t208 t209 t210 t211 t212 t213 t214 t215 768 8 t217 t218 t219 t220 t221 t222 t223 t224 t225 t226 t227 t228 w _ ?side1 ?side2 A13.out).mono ?_); (case side1 => exact And.intro (by (with_reducible repeat (first | refine blk_drewN ?_ _ | refine blk_drew ?_ | refine blk_alloc ?_ _)); refine blk_put (cs := #[.bool t205, .int .u32 t206, .int .u32 t207, .int .u32 t208, .int .u32 t209, .int .u32 t210, .int .u32 t211, .int .u32 t212, .int .u32 t213, .int .u32 t214, .int .u32 0]) ?_ 10 _ rfl; (with_reducible repeat (first | refine blk_drewN ?_ _ | refine blk_drew ?_ | refine blk_alloc ?_ _)); refine blk_put (cs := #[.bool t205, .int .u32 t206, .int .u32 t207, .int .u32 t208, .int .u32 t209, .int .u32 t210, .int .u32 t211, .int .u32 t212, .int .u32 t213, .int .u32 0, .int .u32 0]) ?_ 9 _ rfl; (with_reducible repeat (first | refine blk_drewN ?_ _ | refine blk_drew ?_ | refine blk_alloc ?_ _)); refine blk_put (cs := #[.bool t205, .int .u32 t206, .int .u32 t207, .int .u32 t208, .int .u32 t209, .int .u32 t210, .int .u32 t211, .int .u32 t212, .int .u32 0, .int .u32 0, .int .u32 0]) ?_ 8 _ rfl; (with_reducible repeat (first | refine blk_drewN ?_ _ | refine blk_drew ?_ | refine blk_alloc ?_ _)); refine blk_put (cs := #[.bool t205, .int .u32 t206, .int .u32 t207, .int .u32 t208, .int .u32 t209, .int .u32 t210, .int .u32 t211, .int .u32 0, .int .u32 0, .int .u32 0, .int .u32 0]) ?_ 7 _ rfl; (with_reducible repeat (first | refine blk_drewN ?_ _ | refine blk_drew ?_ | refine blk_alloc ?_ _)); refine blk_put (cs := #[.bool t205, .int .u32 t206, .int .u32 t207, .int .u32 t208, .int .u32 t209, .int .u32 t210, .int .u32 0, .int .u32 0, .int .u32 0, .int .u32 0, .int .u32 0]) ?_ 6 _ rfl; (with_reducible repeat (first | refine blk_drewN ?_ _ | refine blk_drew ?_ | refine blk_alloc ?_ _)); refine blk_put (cs := #[.bool t205, .int .u32 t206, .int .u32 t207, .int .u32 t208, .int .u32 t209, .int .u32 0, .int .u32 0, .int .u32 0, .int .u32 0, .int .u32 0, .int .u32 0]) ?_ 5 _ rfl; (with_reducible repeat (first | refine blk_drewN ?_ _ | refine blk_drew ?_ | refine blk_alloc ?_ _)); refine blk_put (cs := #[.bool t205, .int .u32 t206, .int .u32 t207, .int .u32 t208, .int .u32 0, .int .u32 0, .int .u32 0, .int .u32 0, .int .u32 0, .int .u32 0, .int .u32 0]) ?_ 4 _ rfl; (with_reducible repeat (first | refine blk_drewN ?_ _ | refine blk_drew ?_ | refine blk_alloc ?_ _)); refine blk_put (cs := #[.bool t205, .int .u32 t206, .int .u32 t207, .int .u32 0, .int .u32 0, .int .u32 0, .int .u32 0, .int .u32 0, .int .u32 0, .int .u32 0, .int .u32 0]) ?_ 3 _ rfl; (with_reducible repeat (first | refine blk_drewN ?_ _ | refine blk_drew ?_ | refine blk_alloc ?_ _)); refine blk_put (cs := #[.bool t205, .int .u32 t206, .int .u32 0, .int .u32 0, .int .u32 0, .int .u32 0, .int .u32 0, .int .u32 0, .int .u32 0, .int .u32 0, .int .u32 0]) ?_ 2 _ rfl; (with_reducible repeat (first | refine blk_drewN ?_ _ | refine blk_drew ?_ | refine blk_alloc ?_ _)); refine blk_put (cs := #[.bool t205, .int .u32 0, .int .u32 0, .int .u32 0, .int .u32 0, .int .u32 0, .int .u32 0, .int .u32 0, .int .u32 0, .int .u32 0, .int .u32 0]) ?_ 1 _ rfl; (with_reducible repeat (first | refine blk_drewN ?_ _ | refine blk_drew ?_ | refine blk_alloc ?_ _)); refine blk_put (cs := #[.bool false, .int .u32 0, .int .u32 0, .int .u32 0, .int .u32 0, .int .u32 0, .int .u32 0, .int .u32 0, .int .u32 0, .int .u32 0, .int .u32 0]) ?_ 0 _ rfl; (with_reducible repeat (first | refine blk_drewN ?_ _ | refine blk_drew ?_ | refine blk_alloc ?_ _)); exact BK216.out) GW216.out); (case side2 => repeat (first | (with_reducible first | exact HB.out | apply below_alloc | apply pw_below_drewN | apply below_drew1 | refine below_set ?_ GE216.out) | exact HB.out)); rintro e w14 ⟨rfl, hi, hb, hk⟩; refine ⟨_, rfl, ?_⟩; have n0_ := Aside0.mk (hb); have n1_ := Aside0.mk ((And.left hi)); clear HB; clear BK216; have HB := n0_; have BK216 := n1_; clear n0_ n1_; (try clear hb); (try clear hb2); (try clear hk); (try clear hi)))
        go_meet
        case rel => exact ⟨_, (t218), (t219), (t220), (t221), (t222), (t223), (t224), (t225), (t226), (t227), (t228), H', ⟨by first | omega | exact Nat.le_refl _⟩, ⟨by (with_reducible repeat (first | refine blk_drewN ?_ _ | refine blk_drew ?_ | refine blk_alloc ?_ _)); exact BK216.out⟩, ⟨by repeat (first | (with_reducible first | exact HB.out | apply below_alloc | apply pw_below_drewN | apply below_drew1 | refine below_set ?_ GE216.out) | exact HB.out)⟩⟩
      · replace c12 := Bool.eq_false_iff.mpr c12
        subst c12
        have H1 : (corrallaw6_CsrNests.j0 k a0 a1 false true t205 t206 t207 t208 t209 t210 t211 t212 t213 t214 t215) = some r := by rw [if_neg (show ¬ (false = true) by decide)] at H; exact H
        clear H
        have H := H1
        clear H1
        have H' := Aside0.mk H
        clear H
        go_wp2
        go_meet
        case rel => exact ⟨_, (t205), (t206), (t207), (t208), (t209), (t210), (t211), (t212), (t213), (t214), (t215), H', ⟨by first | omega | exact Nat.le_refl _⟩, ⟨by (with_reducible repeat (first | refine blk_drewN ?_ _ | refine blk_drew ?_ | refine blk_alloc ?_ _)); refine blk_put (cs := #[.bool t205, .int .u32 t206, .int .u32 t207, .int .u32 t208, .int .u32 t209, .int .u32 t210, .int .u32 t211, .int .u32 t212, .int .u32 t213, .int .u32 t214, .int .u32 0]) ?_ 10 _ rfl; (with_reducible repeat (first | refine blk_drewN ?_ _ | refine blk_drew ?_ | refine blk_alloc ?_ _)); refine blk_put (cs := #[.bool t205, .int .u32 t206, .int .u32 t207, .int .u32 t208, .int .u32 t209, .int .u32 t210, .int .u32 t211, .int .u32 t212, .int .u32 t213, .int .u32 0, .int .u32 0]) ?_ 9 _ rfl; (with_reducible repeat (first | refine blk_drewN ?_ _ | refine blk_drew ?_ | refine blk_alloc ?_ _)); refine blk_put (cs := #[.bool t205, .int .u32 t206, .int .u32 t207, .int .u32 t208, .int .u32 t209, .int .u32 t210, .int .u32 t211, .int .u32 t212, .int .u32 0, .int .u32 0, .int .u32 0]) ?_ 8 _ rfl; (with_reducible repeat (first | refine blk_drewN ?_ _ | refine blk_drew ?_ | refine blk_alloc ?_ _)); refine blk_put (cs := #[.bool t205, .int .u32 t206, .int .u32 t207, .int .u32 t208, .int .u32 t209, .int .u32 t210, .int .u32 t211, .int .u32 0, .int .u32 0, .int .u32 0, .int .u32 0]) ?_ 7 _ rfl; (with_reducible repeat (first | refine blk_drewN ?_ _ | refine blk_drew ?_ | refine blk_alloc ?_ _)); refine blk_put (cs := #[.bool t205, .int .u32 t206, .int .u32 t207, .int .u32 t208, .int .u32 t209, .int .u32 t210, .int .u32 0, .int .u32 0, .int .u32 0, .int .u32 0, .int .u32 0]) ?_ 6 _ rfl; (with_reducible repeat (first | refine blk_drewN ?_ _ | refine blk_drew ?_ | refine blk_alloc ?_ _)); refine blk_put (cs := #[.bool t205, .int .u32 t206, .int .u32 t207, .int .u32 t208, .int .u32 t209, .int .u32 0, .int .u32 0, .int .u32 0, .int .u32 0, .int .u32 0, .int .u32 0]) ?_ 5 _ rfl; (with_reducible repeat (first | refine blk_drewN ?_ _ | refine blk_drew ?_ | refine blk_alloc ?_ _)); refine blk_put (cs := #[.bool t205, .int .u32 t206, .int .u32 t207, .int .u32 t208, .int .u32 0, .int .u32 0, .int .u32 0, .int .u32 0, .int .u32 0, .int .u32 0, .int .u32 0]) ?_ 4 _ rfl; (with_reducible repeat (first | refine blk_drewN ?_ _ | refine blk_drew ?_ | refine blk_alloc ?_ _)); refine blk_put (cs := #[.bool t205, .int .u32 t206, .int .u32 t207, .int .u32 0, .int .u32 0, .int .u32 0, .int .u32 0, .int .u32 0, .int .u32 0, .int .u32 0, .int .u32 0]) ?_ 3 _ rfl; (with_reducible repeat (first | refine blk_drewN ?_ _ | refine blk_drew ?_ | refine blk_alloc ?_ _)); refine blk_put (cs := #[.bool t205, .int .u32 t206, .int .u32 0, .int .u32 0, .int .u32 0, .int .u32 0, .int .u32 0, .int .u32 0, .int .u32 0, .int .u32 0, .int .u32 0]) ?_ 2 _ rfl; (with_reducible repeat (first | refine blk_drewN ?_ _ | refine blk_drew ?_ | refine blk_alloc ?_ _)); refine blk_put (cs := #[.bool t205, .int .u32 0, .int .u32 0, .int .u32 0, .int .u32 0, .int .u32 0, .int .u32 0, .int .u32 0, .int .u32 0, .int .u32 0, .int .u32 0]) ?_ 1 _ rfl; (with_reducible repeat (first | refine blk_drewN ?_ _ | refine blk_drew ?_ | refine blk_alloc ?_ _)); refine blk_put (cs := #[.bool false, .int .u32 0, .int .u32 0, .int .u32 0, .int .u32 0, .int .u32 0, .int .u32 0, .int .u32 0, .int .u32 0, .int .u32 0, .int .u32 0]) ?_ 0 _ rfl; (with_reducible repeat (first | refine blk_drewN ?_ _ | refine blk_drew ?_ | refine blk_alloc ?_ _)); exact BK216.out⟩, ⟨by repeat (first | (with_reducible first | exact HB.out | apply below_alloc | apply pw_below_drewN | apply below_drew1 | refine below_set ?_ GE216.out) | exact HB.out)⟩⟩
    case rest =>
      clear HC7
      try clear c1
      try clear c2
      try clear p2
      try clear c5
      try clear c9
      try clear c12
      try clear hcz11_0
      try clear hcz11_1
      try clear hcz11_10
      try clear hcz11_2
      try clear hcz11_3
      try clear hcz11_4
      try clear hcz11_5
      try clear hcz11_6
      try clear hcz11_7
      try clear hcz11_8
      try clear hcz11_9
      try clear hfz11_0
      try clear hfz11_1
      try clear hfz11_10
      try clear hfz11_2
      try clear hfz11_3
      try clear hfz11_4
      try clear hfz11_5
      try clear hfz11_6
      try clear hfz11_7
      try clear hfz11_8
      try clear hfz11_9
      obtain ⟨kq, x217000_6, x217001_6, x217002_6, x217003_6, x217004_6, x217005_6, x217006_6, x217007_6, x217008_6, x217009_6, x217010_6, HA, HJ6, BK216, HB⟩ := hcut
      cases kq with
      | zero => exact absurd HA.out (by simp [corrallaw6_CsrNests.j0])
      | succ kj6 =>
        have H := HA.out
        clear HA
        simp only [corrallaw6_CsrNests.j0] at H
        replace H := Option.bind_eq_some_iff.mp H
        obtain ⟨⟨t229, t230, t231, t232, t233, t234, t235, t236, t237, t238, t239, t240⟩, A150, H⟩ := H
        replace H : ((csr_File_Get.f t230 t231 t232 t233 t234 t235 t236 t237 t238 t239 t240 833).bind fun bt241 => ((csr_File_Get.f bt241.2.2.1 bt241.2.2.2.1 bt241.2.2.2.2.1 bt241.2.2.2.2.2.1 bt241.2.2.2.2.2.2.1 bt241.2.2.2.2.2.2.2.1 bt241.2.2.2.2.2.2.2.2.1 bt241.2.2.2.2.2.2.2.2.2.1 bt241.2.2.2.2.2.2.2.2.2.2.1 bt241.2.2.2.2.2.2.2.2.2.2.2.1 bt241.2.2.2.2.2.2.2.2.2.2.2.2 768).bind fun bt254 => ((csr_File_Trap.f bt254.2.2.1 bt254.2.2.2.1 bt254.2.2.2.2.1 bt254.2.2.2.2.2.1 bt254.2.2.2.2.2.2.1 bt254.2.2.2.2.2.2.2.1 bt254.2.2.2.2.2.2.2.2.1 bt254.2.2.2.2.2.2.2.2.2.1 bt254.2.2.2.2.2.2.2.2.2.2.1 bt254.2.2.2.2.2.2.2.2.2.2.2.1 bt254.2.2.2.2.2.2.2.2.2.2.2.2 5 1 a1).bind fun bt267 => ((csr_File_Get.f bt267.2.1 bt267.2.2.1 bt267.2.2.2.1 bt267.2.2.2.2.1 bt267.2.2.2.2.2.1 bt267.2.2.2.2.2.2.1 bt267.2.2.2.2.2.2.2.1 bt267.2.2.2.2.2.2.2.2.1 bt267.2.2.2.2.2.2.2.2.2.1 bt267.2.2.2.2.2.2.2.2.2.2.1 bt267.2.2.2.2.2.2.2.2.2.2.2 833).bind fun bt279 => ((csr_File_Get.f bt279.2.2.1 bt279.2.2.2.1 bt279.2.2.2.2.1 bt279.2.2.2.2.2.1 bt279.2.2.2.2.2.2.1 bt279.2.2.2.2.2.2.2.1 bt279.2.2.2.2.2.2.2.2.1 bt279.2.2.2.2.2.2.2.2.2.1 bt279.2.2.2.2.2.2.2.2.2.2.1 bt279.2.2.2.2.2.2.2.2.2.2.2.1 bt279.2.2.2.2.2.2.2.2.2.2.2.2 768).bind fun bt292 => (if bt241.1 = (Go.bits .andNot .u32 a0 3) then (if bt279.1 = (Go.bits .andNot .u32 a1 3) then (if bt292.1 = 6144 then (corrallaw6_CsrNests.j1 kj6 a0 a1 a2 true bt241.1 bt254.1 ((bt254.1 == 6272) != a2) bt292.2.2.1 bt292.2.2.2.1 bt292.2.2.2.2.1 bt292.2.2.2.2.2.1 bt292.2.2.2.2.2.2.1 bt292.2.2.2.2.2.2.2.1 bt292.2.2.2.2.2.2.2.2.1 bt292.2.2.2.2.2.2.2.2.2.1 bt292.2.2.2.2.2.2.2.2.2.2.1 bt292.2.2.2.2.2.2.2.2.2.2.2.1 bt292.2.2.2.2.2.2.2.2.2.2.2.2) else (corrallaw6_CsrNests.j1 kj6 a0 a1 a2 true bt241.1 bt254.1 true bt292.2.2.1 bt292.2.2.2.1 bt292.2.2.2.2.1 bt292.2.2.2.2.2.1 bt292.2.2.2.2.2.2.1 bt292.2.2.2.2.2.2.2.1 bt292.2.2.2.2.2.2.2.2.1 bt292.2.2.2.2.2.2.2.2.2.1 bt292.2.2.2.2.2.2.2.2.2.2.1 bt292.2.2.2.2.2.2.2.2.2.2.2.1 bt292.2.2.2.2.2.2.2.2.2.2.2.2)) else (corrallaw6_CsrNests.j1 kj6 a0 a1 a2 true bt241.1 bt254.1 true bt292.2.2.1 bt292.2.2.2.1 bt292.2.2.2.2.1 bt292.2.2.2.2.2.1 bt292.2.2.2.2.2.2.1 bt292.2.2.2.2.2.2.2.1 bt292.2.2.2.2.2.2.2.2.1 bt292.2.2.2.2.2.2.2.2.2.1 bt292.2.2.2.2.2.2.2.2.2.2.1 bt292.2.2.2.2.2.2.2.2.2.2.2.1 bt292.2.2.2.2.2.2.2.2.2.2.2.2)) else (corrallaw6_CsrNests.j1 kj6 a0 a1 a2 true bt241.1 bt254.1 true bt292.2.2.1 bt292.2.2.2.1 bt292.2.2.2.2.1 bt292.2.2.2.2.2.1 bt292.2.2.2.2.2.2.1 bt292.2.2.2.2.2.2.2.1 bt292.2.2.2.2.2.2.2.2.1 bt292.2.2.2.2.2.2.2.2.2.1 bt292.2.2.2.2.2.2.2.2.2.2.1 bt292.2.2.2.2.2.2.2.2.2.2.2.1 bt292.2.2.2.2.2.2.2.2.2.2.2.2))))))) = some r := H
        have A15 := Aside0.mk A150
        clear A150
        replace H := Option.bind_eq_some_iff.mp H
        obtain ⟨⟨t241, t242, t243, t244, t245, t246, t247, t248, t249, t250, t251, t252, t253⟩, A160, H⟩ := H
        replace H : ((csr_File_Get.f t243 t244 t245 t246 t247 t248 t249 t250 t251 t252 t253 768).bind fun bt254 => ((csr_File_Trap.f bt254.2.2.1 bt254.2.2.2.1 bt254.2.2.2.2.1 bt254.2.2.2.2.2.1 bt254.2.2.2.2.2.2.1 bt254.2.2.2.2.2.2.2.1 bt254.2.2.2.2.2.2.2.2.1 bt254.2.2.2.2.2.2.2.2.2.1 bt254.2.2.2.2.2.2.2.2.2.2.1 bt254.2.2.2.2.2.2.2.2.2.2.2.1 bt254.2.2.2.2.2.2.2.2.2.2.2.2 5 1 a1).bind fun bt267 => ((csr_File_Get.f bt267.2.1 bt267.2.2.1 bt267.2.2.2.1 bt267.2.2.2.2.1 bt267.2.2.2.2.2.1 bt267.2.2.2.2.2.2.1 bt267.2.2.2.2.2.2.2.1 bt267.2.2.2.2.2.2.2.2.1 bt267.2.2.2.2.2.2.2.2.2.1 bt267.2.2.2.2.2.2.2.2.2.2.1 bt267.2.2.2.2.2.2.2.2.2.2.2 833).bind fun bt279 => ((csr_File_Get.f bt279.2.2.1 bt279.2.2.2.1 bt279.2.2.2.2.1 bt279.2.2.2.2.2.1 bt279.2.2.2.2.2.2.1 bt279.2.2.2.2.2.2.2.1 bt279.2.2.2.2.2.2.2.2.1 bt279.2.2.2.2.2.2.2.2.2.1 bt279.2.2.2.2.2.2.2.2.2.2.1 bt279.2.2.2.2.2.2.2.2.2.2.2.1 bt279.2.2.2.2.2.2.2.2.2.2.2.2 768).bind fun bt292 => (if t241 = (Go.bits .andNot .u32 a0 3) then (if bt279.1 = (Go.bits .andNot .u32 a1 3) then (if bt292.1 = 6144 then (corrallaw6_CsrNests.j1 kj6 a0 a1 a2 true t241 bt254.1 ((bt254.1 == 6272) != a2) bt292.2.2.1 bt292.2.2.2.1 bt292.2.2.2.2.1 bt292.2.2.2.2.2.1 bt292.2.2.2.2.2.2.1 bt292.2.2.2.2.2.2.2.1 bt292.2.2.2.2.2.2.2.2.1 bt292.2.2.2.2.2.2.2.2.2.1 bt292.2.2.2.2.2.2.2.2.2.2.1 bt292.2.2.2.2.2.2.2.2.2.2.2.1 bt292.2.2.2.2.2.2.2.2.2.2.2.2) else (corrallaw6_CsrNests.j1 kj6 a0 a1 a2 true t241 bt254.1 true bt292.2.2.1 bt292.2.2.2.1 bt292.2.2.2.2.1 bt292.2.2.2.2.2.1 bt292.2.2.2.2.2.2.1 bt292.2.2.2.2.2.2.2.1 bt292.2.2.2.2.2.2.2.2.1 bt292.2.2.2.2.2.2.2.2.2.1 bt292.2.2.2.2.2.2.2.2.2.2.1 bt292.2.2.2.2.2.2.2.2.2.2.2.1 bt292.2.2.2.2.2.2.2.2.2.2.2.2)) else (corrallaw6_CsrNests.j1 kj6 a0 a1 a2 true t241 bt254.1 true bt292.2.2.1 bt292.2.2.2.1 bt292.2.2.2.2.1 bt292.2.2.2.2.2.1 bt292.2.2.2.2.2.2.1 bt292.2.2.2.2.2.2.2.1 bt292.2.2.2.2.2.2.2.2.1 bt292.2.2.2.2.2.2.2.2.2.1 bt292.2.2.2.2.2.2.2.2.2.2.1 bt292.2.2.2.2.2.2.2.2.2.2.2.1 bt292.2.2.2.2.2.2.2.2.2.2.2.2)) else (corrallaw6_CsrNests.j1 kj6 a0 a1 a2 true t241 bt254.1 true bt292.2.2.1 bt292.2.2.2.1 bt292.2.2.2.2.1 bt292.2.2.2.2.2.1 bt292.2.2.2.2.2.2.1 bt292.2.2.2.2.2.2.2.1 bt292.2.2.2.2.2.2.2.2.1 bt292.2.2.2.2.2.2.2.2.2.1 bt292.2.2.2.2.2.2.2.2.2.2.1 bt292.2.2.2.2.2.2.2.2.2.2.2.1 bt292.2.2.2.2.2.2.2.2.2.2.2.2)))))) = some r := H
        have A16 := Aside0.mk A160
        clear A160
        replace H := Option.bind_eq_some_iff.mp H
        obtain ⟨⟨t254, t255, t256, t257, t258, t259, t260, t261, t262, t263, t264, t265, t266⟩, A170, H⟩ := H
        replace H : ((csr_File_Trap.f t256 t257 t258 t259 t260 t261 t262 t263 t264 t265 t266 5 1 a1).bind fun bt267 => ((csr_File_Get.f bt267.2.1 bt267.2.2.1 bt267.2.2.2.1 bt267.2.2.2.2.1 bt267.2.2.2.2.2.1 bt267.2.2.2.2.2.2.1 bt267.2.2.2.2.2.2.2.1 bt267.2.2.2.2.2.2.2.2.1 bt267.2.2.2.2.2.2.2.2.2.1 bt267.2.2.2.2.2.2.2.2.2.2.1 bt267.2.2.2.2.2.2.2.2.2.2.2 833).bind fun bt279 => ((csr_File_Get.f bt279.2.2.1 bt279.2.2.2.1 bt279.2.2.2.2.1 bt279.2.2.2.2.2.1 bt279.2.2.2.2.2.2.1 bt279.2.2.2.2.2.2.2.1 bt279.2.2.2.2.2.2.2.2.1 bt279.2.2.2.2.2.2.2.2.2.1 bt279.2.2.2.2.2.2.2.2.2.2.1 bt279.2.2.2.2.2.2.2.2.2.2.2.1 bt279.2.2.2.2.2.2.2.2.2.2.2.2 768).bind fun bt292 => (if t241 = (Go.bits .andNot .u32 a0 3) then (if bt279.1 = (Go.bits .andNot .u32 a1 3) then (if bt292.1 = 6144 then (corrallaw6_CsrNests.j1 kj6 a0 a1 a2 true t241 t254 ((t254 == 6272) != a2) bt292.2.2.1 bt292.2.2.2.1 bt292.2.2.2.2.1 bt292.2.2.2.2.2.1 bt292.2.2.2.2.2.2.1 bt292.2.2.2.2.2.2.2.1 bt292.2.2.2.2.2.2.2.2.1 bt292.2.2.2.2.2.2.2.2.2.1 bt292.2.2.2.2.2.2.2.2.2.2.1 bt292.2.2.2.2.2.2.2.2.2.2.2.1 bt292.2.2.2.2.2.2.2.2.2.2.2.2) else (corrallaw6_CsrNests.j1 kj6 a0 a1 a2 true t241 t254 true bt292.2.2.1 bt292.2.2.2.1 bt292.2.2.2.2.1 bt292.2.2.2.2.2.1 bt292.2.2.2.2.2.2.1 bt292.2.2.2.2.2.2.2.1 bt292.2.2.2.2.2.2.2.2.1 bt292.2.2.2.2.2.2.2.2.2.1 bt292.2.2.2.2.2.2.2.2.2.2.1 bt292.2.2.2.2.2.2.2.2.2.2.2.1 bt292.2.2.2.2.2.2.2.2.2.2.2.2)) else (corrallaw6_CsrNests.j1 kj6 a0 a1 a2 true t241 t254 true bt292.2.2.1 bt292.2.2.2.1 bt292.2.2.2.2.1 bt292.2.2.2.2.2.1 bt292.2.2.2.2.2.2.1 bt292.2.2.2.2.2.2.2.1 bt292.2.2.2.2.2.2.2.2.1 bt292.2.2.2.2.2.2.2.2.2.1 bt292.2.2.2.2.2.2.2.2.2.2.1 bt292.2.2.2.2.2.2.2.2.2.2.2.1 bt292.2.2.2.2.2.2.2.2.2.2.2.2)) else (corrallaw6_CsrNests.j1 kj6 a0 a1 a2 true t241 t254 true bt292.2.2.1 bt292.2.2.2.1 bt292.2.2.2.2.1 bt292.2.2.2.2.2.1 bt292.2.2.2.2.2.2.1 bt292.2.2.2.2.2.2.2.1 bt292.2.2.2.2.2.2.2.2.1 bt292.2.2.2.2.2.2.2.2.2.1 bt292.2.2.2.2.2.2.2.2.2.2.1 bt292.2.2.2.2.2.2.2.2.2.2.2.1 bt292.2.2.2.2.2.2.2.2.2.2.2.2))))) = some r := H
        have A17 := Aside0.mk A170
        clear A170
        replace H := Option.bind_eq_some_iff.mp H
        obtain ⟨⟨t267, t268, t269, t270, t271, t272, t273, t274, t275, t276, t277, t278⟩, A180, H⟩ := H
        replace H : ((csr_File_Get.f t268 t269 t270 t271 t272 t273 t274 t275 t276 t277 t278 833).bind fun bt279 => ((csr_File_Get.f bt279.2.2.1 bt279.2.2.2.1 bt279.2.2.2.2.1 bt279.2.2.2.2.2.1 bt279.2.2.2.2.2.2.1 bt279.2.2.2.2.2.2.2.1 bt279.2.2.2.2.2.2.2.2.1 bt279.2.2.2.2.2.2.2.2.2.1 bt279.2.2.2.2.2.2.2.2.2.2.1 bt279.2.2.2.2.2.2.2.2.2.2.2.1 bt279.2.2.2.2.2.2.2.2.2.2.2.2 768).bind fun bt292 => (if t241 = (Go.bits .andNot .u32 a0 3) then (if bt279.1 = (Go.bits .andNot .u32 a1 3) then (if bt292.1 = 6144 then (corrallaw6_CsrNests.j1 kj6 a0 a1 a2 true t241 t254 ((t254 == 6272) != a2) bt292.2.2.1 bt292.2.2.2.1 bt292.2.2.2.2.1 bt292.2.2.2.2.2.1 bt292.2.2.2.2.2.2.1 bt292.2.2.2.2.2.2.2.1 bt292.2.2.2.2.2.2.2.2.1 bt292.2.2.2.2.2.2.2.2.2.1 bt292.2.2.2.2.2.2.2.2.2.2.1 bt292.2.2.2.2.2.2.2.2.2.2.2.1 bt292.2.2.2.2.2.2.2.2.2.2.2.2) else (corrallaw6_CsrNests.j1 kj6 a0 a1 a2 true t241 t254 true bt292.2.2.1 bt292.2.2.2.1 bt292.2.2.2.2.1 bt292.2.2.2.2.2.1 bt292.2.2.2.2.2.2.1 bt292.2.2.2.2.2.2.2.1 bt292.2.2.2.2.2.2.2.2.1 bt292.2.2.2.2.2.2.2.2.2.1 bt292.2.2.2.2.2.2.2.2.2.2.1 bt292.2.2.2.2.2.2.2.2.2.2.2.1 bt292.2.2.2.2.2.2.2.2.2.2.2.2)) else (corrallaw6_CsrNests.j1 kj6 a0 a1 a2 true t241 t254 true bt292.2.2.1 bt292.2.2.2.1 bt292.2.2.2.2.1 bt292.2.2.2.2.2.1 bt292.2.2.2.2.2.2.1 bt292.2.2.2.2.2.2.2.1 bt292.2.2.2.2.2.2.2.2.1 bt292.2.2.2.2.2.2.2.2.2.1 bt292.2.2.2.2.2.2.2.2.2.2.1 bt292.2.2.2.2.2.2.2.2.2.2.2.1 bt292.2.2.2.2.2.2.2.2.2.2.2.2)) else (corrallaw6_CsrNests.j1 kj6 a0 a1 a2 true t241 t254 true bt292.2.2.1 bt292.2.2.2.1 bt292.2.2.2.2.1 bt292.2.2.2.2.2.1 bt292.2.2.2.2.2.2.1 bt292.2.2.2.2.2.2.2.1 bt292.2.2.2.2.2.2.2.2.1 bt292.2.2.2.2.2.2.2.2.2.1 bt292.2.2.2.2.2.2.2.2.2.2.1 bt292.2.2.2.2.2.2.2.2.2.2.2.1 bt292.2.2.2.2.2.2.2.2.2.2.2.2)))) = some r := H
        have A18 := Aside0.mk A180
        clear A180
        replace H := Option.bind_eq_some_iff.mp H
        obtain ⟨⟨t279, t280, t281, t282, t283, t284, t285, t286, t287, t288, t289, t290, t291⟩, A190, H⟩ := H
        replace H : ((csr_File_Get.f t281 t282 t283 t284 t285 t286 t287 t288 t289 t290 t291 768).bind fun bt292 => (if t241 = (Go.bits .andNot .u32 a0 3) then (if t279 = (Go.bits .andNot .u32 a1 3) then (if bt292.1 = 6144 then (corrallaw6_CsrNests.j1 kj6 a0 a1 a2 true t241 t254 ((t254 == 6272) != a2) bt292.2.2.1 bt292.2.2.2.1 bt292.2.2.2.2.1 bt292.2.2.2.2.2.1 bt292.2.2.2.2.2.2.1 bt292.2.2.2.2.2.2.2.1 bt292.2.2.2.2.2.2.2.2.1 bt292.2.2.2.2.2.2.2.2.2.1 bt292.2.2.2.2.2.2.2.2.2.2.1 bt292.2.2.2.2.2.2.2.2.2.2.2.1 bt292.2.2.2.2.2.2.2.2.2.2.2.2) else (corrallaw6_CsrNests.j1 kj6 a0 a1 a2 true t241 t254 true bt292.2.2.1 bt292.2.2.2.1 bt292.2.2.2.2.1 bt292.2.2.2.2.2.1 bt292.2.2.2.2.2.2.1 bt292.2.2.2.2.2.2.2.1 bt292.2.2.2.2.2.2.2.2.1 bt292.2.2.2.2.2.2.2.2.2.1 bt292.2.2.2.2.2.2.2.2.2.2.1 bt292.2.2.2.2.2.2.2.2.2.2.2.1 bt292.2.2.2.2.2.2.2.2.2.2.2.2)) else (corrallaw6_CsrNests.j1 kj6 a0 a1 a2 true t241 t254 true bt292.2.2.1 bt292.2.2.2.1 bt292.2.2.2.2.1 bt292.2.2.2.2.2.1 bt292.2.2.2.2.2.2.1 bt292.2.2.2.2.2.2.2.1 bt292.2.2.2.2.2.2.2.2.1 bt292.2.2.2.2.2.2.2.2.2.1 bt292.2.2.2.2.2.2.2.2.2.2.1 bt292.2.2.2.2.2.2.2.2.2.2.2.1 bt292.2.2.2.2.2.2.2.2.2.2.2.2)) else (corrallaw6_CsrNests.j1 kj6 a0 a1 a2 true t241 t254 true bt292.2.2.1 bt292.2.2.2.1 bt292.2.2.2.2.1 bt292.2.2.2.2.2.1 bt292.2.2.2.2.2.2.1 bt292.2.2.2.2.2.2.2.1 bt292.2.2.2.2.2.2.2.2.1 bt292.2.2.2.2.2.2.2.2.2.1 bt292.2.2.2.2.2.2.2.2.2.2.1 bt292.2.2.2.2.2.2.2.2.2.2.2.1 bt292.2.2.2.2.2.2.2.2.2.2.2.2))) = some r := H
        have A19 := Aside0.mk A190
        clear A190
        replace H := Option.bind_eq_some_iff.mp H
        obtain ⟨⟨t292, t293, t294, t295, t296, t297, t298, t299, t300, t301, t302, t303, t304⟩, A200, H⟩ := H
        replace H : (if t241 = (Go.bits .andNot .u32 a0 3) then (if t279 = (Go.bits .andNot .u32 a1 3) then (if t292 = 6144 then (corrallaw6_CsrNests.j1 kj6 a0 a1 a2 true t241 t254 ((t254 == 6272) != a2) t294 t295 t296 t297 t298 t299 t300 t301 t302 t303 t304) else (corrallaw6_CsrNests.j1 kj6 a0 a1 a2 true t241 t254 true t294 t295 t296 t297 t298 t299 t300 t301 t302 t303 t304)) else (corrallaw6_CsrNests.j1 kj6 a0 a1 a2 true t241 t254 true t294 t295 t296 t297 t298 t299 t300 t301 t302 t303 t304)) else (corrallaw6_CsrNests.j1 kj6 a0 a1 a2 true t241 t254 true t294 t295 t296 t297 t298 t299 t300 t301 t302 t303 t304)) = some r := H
        have A20 := Aside0.mk A200
        clear A200
        have HC21 := Aside0.mk H
        clear H
        go_upto_region 13 with (first | ((with_reducible refine gate_callee (f := 28) rfl ?_); refine goesL_ (some 27) rfl rfl Try.func28 (by kernel_rfl) rfl #[.pointer (some ⟨gb216, 0, none⟩), .int .u32 3, .int .u32 0, .int .u32 a0] rfl (by (try simp only [List.map_toArray, List.map_cons, List.map_nil]); first | done | rfl | (simp only [List.length_drop, List.length_take]; rfl)) ?_; (with_reducible refine (csr_File_Trap.calls gb216 x217000_6 x217001_6 x217002_6 x217003_6 x217004_6 x217005_6 x217006_6 x217007_6 x217008_6 x217009_6 x217010_6 3 0 a0 t229 t230 t231 t232 t233 t234 t235 t236 t237 t238 t239 t240 w _ ?side1 ?side2 A15.out).mono ?_); (case side1 => exact And.intro (by (with_reducible repeat (first | refine blk_drewN ?_ _ | refine blk_drew ?_ | refine blk_alloc ?_ _)); exact BK216.out) GW216.out); (case side2 => repeat (first | (with_reducible first | exact HB.out | apply below_alloc | apply pw_below_drewN | apply below_drew1 | refine below_set ?_ GE216.out) | exact HB.out)); rintro e w22 ⟨rfl, hi, hb, hk⟩; refine ⟨_, rfl, ?_⟩; have n0_ := Aside0.mk (hb); have n1_ := Aside0.mk ((And.left hi)); clear HB; clear BK216; have HB := n0_; have BK216 := n1_; clear n0_ n1_; (try clear hb); (try clear hb2); (try clear hk); (try clear hi)) | ((with_reducible refine gate_callee (f := 23) rfl ?_); refine goesL_ (some 29) rfl rfl Try.func23 (by kernel_rfl) rfl #[.pointer (some ⟨gb216, 0, none⟩), .int .i64 833] rfl (by (try simp only [List.map_toArray, List.map_cons, List.map_nil]); first | done | rfl | (simp only [List.length_drop, List.length_take]; rfl)) ?_; (with_reducible refine (csr_File_Get.calls gb216 t230 t231 t232 t233 t234 t235 t236 t237 t238 t239 t240 833 t241 t242 t243 t244 t245 t246 t247 t248 t249 t250 t251 t252 t253 w _ ?side1 ?side2 A16.out).mono ?_); (case side1 => exact And.intro (by (with_reducible repeat (first | refine blk_drewN ?_ _ | refine blk_drew ?_ | refine blk_alloc ?_ _)); exact BK216.out) GW216.out); (case side2 => repeat (first | (with_reducible first | exact HB.out | apply below_alloc | apply pw_below_drewN | apply below_drew1 | refine below_set ?_ GE216.out) | exact HB.out)); rintro e w23 ⟨rfl, hi, hb, hk⟩; refine ⟨_, rfl, ?_⟩; have n0_ := Aside0.mk (hb); have n1_ := Aside0.mk ((And.left hi)); clear HB; clear BK216; have HB := n0_; have BK216 := n1_; clear n0_ n1_; (try clear hb); (try clear hb2); (try clear hk); (try clear hi)) | ((with_reducible refine gate_callee (f := 23) rfl ?_); refine goesL_ (some 33) rfl rfl Try.func23 (by kernel_rfl) rfl #[.pointer (some ⟨gb216, 0, none⟩), .int .i64 768] rfl (by (try simp only [List.map_toArray, List.map_cons, List.map_nil]); first | done | rfl | (simp only [List.length_drop, List.length_take]; rfl)) ?_; (with_reducible refine (csr_File_Get.calls gb216 t243 t244 t245 t246 t247 t248 t249 t250 t251 t252 t253 768 t254 t255 t256 t257 t258 t259 t260 t261 t262 t263 t264 t265 t266 w _ ?side1 ?side2 A17.out).mono ?_); (case side1 => exact And.intro (by (with_reducible repeat (first | refine blk_drewN ?_ _ | refine blk_drew ?_ | refine blk_alloc ?_ _)); exact BK216.out) GW216.out); (case side2 => repeat (first | (with_reducible first | exact HB.out | apply below_alloc | apply pw_below_drewN | apply below_drew1 | refine below_set ?_ GE216.out) | exact HB.out)); rintro e w24 ⟨rfl, hi, hb, hk⟩; refine ⟨_, rfl, ?_⟩; have n0_ := Aside0.mk (hb); have n1_ := Aside0.mk ((And.left hi)); clear HB; clear BK216; have HB := n0_; have BK216 := n1_; clear n0_ n1_; (try clear hb); (try clear hb2); (try clear hk); (try clear hi)) | ((with_reducible refine gate_callee (f := 28) rfl ?_); refine goesL_ (some 37) rfl rfl Try.func28 (by kernel_rfl) rfl #[.pointer (some ⟨gb216, 0, none⟩), .int .u32 5, .int .u32 1, .int .u32 a1] rfl (by (try simp only [List.map_toArray, List.map_cons, List.map_nil]); first | done | rfl | (simp only [List.length_drop, List.length_take]; rfl)) ?_; (with_reducible refine (csr_File_Trap.calls gb216 t256 t257 t258 t259 t260 t261 t262 t263 t264 t265 t266 5 1 a1 t267 t268 t269 t270 t271 t272 t273 t274 t275 t276 t277 t278 w _ ?side1 ?side2 A18.out).mono ?_); (case side1 => exact And.intro (by (with_reducible repeat (first | refine blk_drewN ?_ _ | refine blk_drew ?_ | refine blk_alloc ?_ _)); exact BK216.out) GW216.out); (case side2 => repeat (first | (with_reducible first | exact HB.out | apply below_alloc | apply pw_below_drewN | apply below_drew1 | refine below_set ?_ GE216.out) | exact HB.out)); rintro e w25 ⟨rfl, hi, hb, hk⟩; refine ⟨_, rfl, ?_⟩; have n0_ := Aside0.mk (hb); have n1_ := Aside0.mk ((And.left hi)); clear HB; clear BK216; have HB := n0_; have BK216 := n1_; clear n0_ n1_; (try clear hb); (try clear hb2); (try clear hk); (try clear hi)) | ((with_reducible refine gate_callee (f := 23) rfl ?_); refine goesL_ (some 39) rfl rfl Try.func23 (by kernel_rfl) rfl #[.pointer (some ⟨gb216, 0, none⟩), .int .i64 833] rfl (by (try simp only [List.map_toArray, List.map_cons, List.map_nil]); first | done | rfl | (simp only [List.length_drop, List.length_take]; rfl)) ?_; (with_reducible refine (csr_File_Get.calls gb216 t268 t269 t270 t271 t272 t273 t274 t275 t276 t277 t278 833 t279 t280 t281 t282 t283 t284 t285 t286 t287 t288 t289 t290 t291 w _ ?side1 ?side2 A19.out).mono ?_); (case side1 => exact And.intro (by (with_reducible repeat (first | refine blk_drewN ?_ _ | refine blk_drew ?_ | refine blk_alloc ?_ _)); exact BK216.out) GW216.out); (case side2 => repeat (first | (with_reducible first | exact HB.out | apply below_alloc | apply pw_below_drewN | apply below_drew1 | refine below_set ?_ GE216.out) | exact HB.out)); rintro e w26 ⟨rfl, hi, hb, hk⟩; refine ⟨_, rfl, ?_⟩; have n0_ := Aside0.mk (hb); have n1_ := Aside0.mk ((And.left hi)); clear HB; clear BK216; have HB := n0_; have BK216 := n1_; clear n0_ n1_; (try clear hb); (try clear hb2); (try clear hk); (try clear hi)) | ((with_reducible refine gate_callee (f := 23) rfl ?_); refine goesL_ (some 43) rfl rfl Try.func23 (by kernel_rfl) rfl #[.pointer (some ⟨gb216, 0, none⟩), .int .i64 768] rfl (by (try simp only [List.map_toArray, List.map_cons, List.map_nil]); first | done | rfl | (simp only [List.length_drop, List.length_take]; rfl)) ?_; (with_reducible refine (csr_File_Get.calls gb216 t281 t282 t283 t284 t285 t286 t287 t288 t289 t290 t291 768 t292 t293 t294 t295 t296 t297 t298 t299 t300 t301 t302 t303 t304 w _ ?side1 ?side2 A20.out).mono ?_); (case side1 => exact And.intro (by (with_reducible repeat (first | refine blk_drewN ?_ _ | refine blk_drew ?_ | refine blk_alloc ?_ _)); exact BK216.out) GW216.out); (case side2 => repeat (first | (with_reducible first | exact HB.out | apply below_alloc | apply pw_below_drewN | apply below_drew1 | refine below_set ?_ GE216.out) | exact HB.out)); rintro e w27 ⟨rfl, hi, hb, hk⟩; refine ⟨_, rfl, ?_⟩; have n0_ := Aside0.mk (hb); have n1_ := Aside0.mk ((And.left hi)); clear HB; clear BK216; have HB := n0_; have BK216 := n1_; clear n0_ n1_; (try clear hb); (try clear hb2); (try clear hk); (try clear hi)))
        (try simp only [Act.put, List.setIfInBounds_toArray, List.set_cons_zero, List.set_cons_succ])
        go_cut [65] (fun v65 wc => ∃ (kq : Nat) (x65_20 : Bool), v65 = .bool x65_20 ∧ Aside0 (corrallaw6_CsrNests.j1 kq a0 a1 a2 true t241 t254 x65_20 t294 t295 t296 t297 t298 t299 t300 t301 t302 t303 t304 = some r) ∧ Aside0 (kq ≤ kj6) ∧ Aside0 (wc.heap[gb216]? = some (.cells #[.bool t294, .int .u32 t295, .int .u32 t296, .int .u32 t297, .int .u32 t298, .int .u32 t299, .int .u32 t300, .int .u32 t301, .int .u32 t302, .int .u32 t303, .int .u32 t304] 38 (0, 0))) ∧ Aside0 (Below w.heap.size w wc))
        case first =>
          have H := HC21.out
          clear HC21
          by_cases c28 : t241 = (Go.bits .andNot .u32 a0 3)
          · rw [if_pos c28] at H
            have c28b0 : (t241 == (Go.bits .andNot .u32 a0 3)) = true := beq_iff_eq.mpr c28
            have c28b1 : (t241 != (Go.bits .andNot .u32 a0 3)) = false := bne_eq_false_iff_eq.mpr c28
            clear c28
            (first | rw [c28b0] | (simp only [i64_w, i32_w]; rw [c28b0]) | skip)
            by_cases c29 : t279 = (Go.bits .andNot .u32 a1 3)
            · rw [if_pos c29] at H
              have c29b0 : (t279 == (Go.bits .andNot .u32 a1 3)) = true := beq_iff_eq.mpr c29
              have c29b1 : (t279 != (Go.bits .andNot .u32 a1 3)) = false := bne_eq_false_iff_eq.mpr c29
              clear c29
              by_cases c30 : t292 = 6144
              · rw [if_pos c30] at H
                have c30b0 : (t292 == 6144) = true := beq_iff_eq.mpr c30
                have c30b1 : (t292 != 6144) = false := bne_eq_false_iff_eq.mpr c30
                clear c30
                have H' := Aside0.mk H
                clear H
                go_wp2
                go_meet
                case rel => exact ⟨_, (((t254 == 6272) != a2)), (by first | rfl | (simp; done) | (simp [*]; done)), H', ⟨by have := HJ6.out; first | omega | exact Nat.le_refl _⟩, ⟨by (with_reducible repeat (first | refine blk_drewN ?_ _ | refine blk_drew ?_ | refine blk_alloc ?_ _)); exact BK216.out⟩, ⟨by repeat (first | (with_reducible first | exact HB.out | apply below_alloc | apply pw_below_drewN | apply below_drew1 | refine below_set ?_ GE216.out) | exact HB.out)⟩⟩
              · rw [if_neg c30] at H
                have c30b0 : (t292 == 6144) = false := beq_eq_false_iff_ne.mpr c30
                have c30b1 : (t292 != 6144) = true := bne_iff_ne.mpr c30
                have H' := Aside0.mk H
                clear H
                go_wp2
                go_meet
                case rel => exact ⟨_, (true), (by first | rfl | (simp; done) | (simp [*]; done)), H', ⟨by have := HJ6.out; first | omega | exact Nat.le_refl _⟩, ⟨by (with_reducible repeat (first | refine blk_drewN ?_ _ | refine blk_drew ?_ | refine blk_alloc ?_ _)); exact BK216.out⟩, ⟨by repeat (first | (with_reducible first | exact HB.out | apply below_alloc | apply pw_below_drewN | apply below_drew1 | refine below_set ?_ GE216.out) | exact HB.out)⟩⟩
            · rw [if_neg c29] at H
              have c29b0 : (t279 == (Go.bits .andNot .u32 a1 3)) = false := beq_eq_false_iff_ne.mpr c29
              have c29b1 : (t279 != (Go.bits .andNot .u32 a1 3)) = true := bne_iff_ne.mpr c29
              have H' := Aside0.mk H
              clear H
              go_wp2
              go_meet
              case rel => exact ⟨_, (true), (by first | rfl | (simp; done) | (simp [*]; done)), H', ⟨by have := HJ6.out; first | omega | exact Nat.le_refl _⟩, ⟨by (with_reducible repeat (first | refine blk_drewN ?_ _ | refine blk_drew ?_ | refine blk_alloc ?_ _)); exact BK216.out⟩, ⟨by repeat (first | (with_reducible first | exact HB.out | apply below_alloc | apply pw_below_drewN | apply below_drew1 | refine below_set ?_ GE216.out) | exact HB.out)⟩⟩
          · rw [if_neg c28] at H
            have c28b0 : (t241 == (Go.bits .andNot .u32 a0 3)) = false := beq_eq_false_iff_ne.mpr c28
            have c28b1 : (t241 != (Go.bits .andNot .u32 a0 3)) = true := bne_iff_ne.mpr c28
            (first | rw [c28b0] | (simp only [i64_w, i32_w]; rw [c28b0]) | skip)
            have H' := Aside0.mk H
            clear H
            go_wp2
            go_meet
            case rel => exact ⟨_, (true), (by first | rfl | (simp; done) | (simp [*]; done)), H', ⟨by have := HJ6.out; first | omega | exact Nat.le_refl _⟩, ⟨by (with_reducible repeat (first | refine blk_drewN ?_ _ | refine blk_drew ?_ | refine blk_alloc ?_ _)); exact BK216.out⟩, ⟨by repeat (first | (with_reducible first | exact HB.out | apply below_alloc | apply pw_below_drewN | apply below_drew1 | refine below_set ?_ GE216.out) | exact HB.out)⟩⟩
        case rest =>
          clear HC21
          try clear c1
          try clear c2
          try clear p2
          try clear c3
          try clear c5
          try clear c9
          try clear c12
          try clear c20
          try clear c21
          try clear c22
          try clear c23
          try clear c28
          try clear c28b0
          try clear c28b1
          try clear c29
          try clear c29b0
          try clear c29b1
          try clear c30
          try clear c30b0
          try clear c30b1
          try clear hcz11_0
          try clear hcz11_1
          try clear hcz11_10
          try clear hcz11_2
          try clear hcz11_3
          try clear hcz11_4
          try clear hcz11_5
          try clear hcz11_6
          try clear hcz11_7
          try clear hcz11_8
          try clear hcz11_9
          try clear hfz11_0
          try clear hfz11_1
          try clear hfz11_10
          try clear hfz11_2
          try clear hfz11_3
          try clear hfz11_4
          try clear hfz11_5
          try clear hfz11_6
          try clear hfz11_7
          try clear hfz11_8
          try clear hfz11_9
          try clear p2
          obtain ⟨kq, x65_20, rfl, HA, HJ20, BK216, HB⟩ := hcut
          cases kq with
          | zero => exact absurd HA.out (by simp [corrallaw6_CsrNests.j1])
          | succ kj20 =>
            have H := HA.out
            clear HA
            simp only [corrallaw6_CsrNests.j1] at H
            by_cases c31 : x65_20 = true
            · subst c31
              have H1 : (some false) = some r := by rw [if_pos rfl] at H; exact H
              clear H
              have H := H1
              clear H1
              exact absurd (Option.some.inj H) (by rw [HRT.out]; decide)
            · replace c31 := Bool.eq_false_iff.mpr c31
              subst c31
              have H1 : ((csr_File_Return.f t294 t295 t296 t297 t298 t299 t300 t301 t302 t303 t304).bind fun bt305 => (if bt305.1 = (Go.bits .andNot .u32 a1 3) then ((csr_File_Set.f bt305.2.1 bt305.2.2.1 bt305.2.2.2.1 bt305.2.2.2.2.1 bt305.2.2.2.2.2.1 bt305.2.2.2.2.2.2.1 bt305.2.2.2.2.2.2.2.1 bt305.2.2.2.2.2.2.2.2.1 bt305.2.2.2.2.2.2.2.2.2.1 bt305.2.2.2.2.2.2.2.2.2.2.1 bt305.2.2.2.2.2.2.2.2.2.2.2 833 t241).bind fun bt317 => ((csr_File_Set.f bt317.2.1 bt317.2.2.1 bt317.2.2.2.1 bt317.2.2.2.2.1 bt317.2.2.2.2.2.1 bt317.2.2.2.2.2.2.1 bt317.2.2.2.2.2.2.2.1 bt317.2.2.2.2.2.2.2.2.1 bt317.2.2.2.2.2.2.2.2.2.1 bt317.2.2.2.2.2.2.2.2.2.2.1 bt317.2.2.2.2.2.2.2.2.2.2.2 768 t254).bind fun bt329 => ((csr_File_Return.f bt329.2.1 bt329.2.2.1 bt329.2.2.2.1 bt329.2.2.2.2.1 bt329.2.2.2.2.2.1 bt329.2.2.2.2.2.2.1 bt329.2.2.2.2.2.2.2.1 bt329.2.2.2.2.2.2.2.2.1 bt329.2.2.2.2.2.2.2.2.2.1 bt329.2.2.2.2.2.2.2.2.2.2.1 bt329.2.2.2.2.2.2.2.2.2.2.2).bind fun bt341 => ((csr_File_Get.f bt341.2.1 bt341.2.2.1 bt341.2.2.2.1 bt341.2.2.2.2.1 bt341.2.2.2.2.2.1 bt341.2.2.2.2.2.2.1 bt341.2.2.2.2.2.2.2.1 bt341.2.2.2.2.2.2.2.2.1 bt341.2.2.2.2.2.2.2.2.2.1 bt341.2.2.2.2.2.2.2.2.2.2.1 bt341.2.2.2.2.2.2.2.2.2.2.2 768).bind fun bt353 => (if true = true then (if bt341.1 = (Go.bits .andNot .u32 a0 3) then (if (((Go.bits .and .u32 bt353.1 8) != 0) == a2) = true then ((csr_File_Mode.f bt353.2.2.1 bt353.2.2.2.1 bt353.2.2.2.2.1 bt353.2.2.2.2.2.1 bt353.2.2.2.2.2.2.1 bt353.2.2.2.2.2.2.2.1 bt353.2.2.2.2.2.2.2.2.1 bt353.2.2.2.2.2.2.2.2.2.1 bt353.2.2.2.2.2.2.2.2.2.2.1 bt353.2.2.2.2.2.2.2.2.2.2.2.1 bt353.2.2.2.2.2.2.2.2.2.2.2.2).bind fun bt366 => (some (bt366.1 == 3))) else (some false)) else (some false)) else (some false)))))) else (some false))) = some r := by rw [if_neg (show ¬ (false = true) by decide)] at H; exact H
              clear H
              have H := H1
              clear H1
              replace H := Option.bind_eq_some_iff.mp H
              obtain ⟨⟨t305, t306, t307, t308, t309, t310, t311, t312, t313, t314, t315, t316⟩, A320, H⟩ := H
              replace H : (if t305 = (Go.bits .andNot .u32 a1 3) then ((csr_File_Set.f t306 t307 t308 t309 t310 t311 t312 t313 t314 t315 t316 833 t241).bind fun bt317 => ((csr_File_Set.f bt317.2.1 bt317.2.2.1 bt317.2.2.2.1 bt317.2.2.2.2.1 bt317.2.2.2.2.2.1 bt317.2.2.2.2.2.2.1 bt317.2.2.2.2.2.2.2.1 bt317.2.2.2.2.2.2.2.2.1 bt317.2.2.2.2.2.2.2.2.2.1 bt317.2.2.2.2.2.2.2.2.2.2.1 bt317.2.2.2.2.2.2.2.2.2.2.2 768 t254).bind fun bt329 => ((csr_File_Return.f bt329.2.1 bt329.2.2.1 bt329.2.2.2.1 bt329.2.2.2.2.1 bt329.2.2.2.2.2.1 bt329.2.2.2.2.2.2.1 bt329.2.2.2.2.2.2.2.1 bt329.2.2.2.2.2.2.2.2.1 bt329.2.2.2.2.2.2.2.2.2.1 bt329.2.2.2.2.2.2.2.2.2.2.1 bt329.2.2.2.2.2.2.2.2.2.2.2).bind fun bt341 => ((csr_File_Get.f bt341.2.1 bt341.2.2.1 bt341.2.2.2.1 bt341.2.2.2.2.1 bt341.2.2.2.2.2.1 bt341.2.2.2.2.2.2.1 bt341.2.2.2.2.2.2.2.1 bt341.2.2.2.2.2.2.2.2.1 bt341.2.2.2.2.2.2.2.2.2.1 bt341.2.2.2.2.2.2.2.2.2.2.1 bt341.2.2.2.2.2.2.2.2.2.2.2 768).bind fun bt353 => (if true = true then (if bt341.1 = (Go.bits .andNot .u32 a0 3) then (if (((Go.bits .and .u32 bt353.1 8) != 0) == a2) = true then ((csr_File_Mode.f bt353.2.2.1 bt353.2.2.2.1 bt353.2.2.2.2.1 bt353.2.2.2.2.2.1 bt353.2.2.2.2.2.2.1 bt353.2.2.2.2.2.2.2.1 bt353.2.2.2.2.2.2.2.2.1 bt353.2.2.2.2.2.2.2.2.2.1 bt353.2.2.2.2.2.2.2.2.2.2.1 bt353.2.2.2.2.2.2.2.2.2.2.2.1 bt353.2.2.2.2.2.2.2.2.2.2.2.2).bind fun bt366 => (some (bt366.1 == 3))) else (some false)) else (some false)) else (some false)))))) else (some false)) = some r := H
              have A32 := Aside0.mk A320
              clear A320
              by_cases c33 : t305 = (Go.bits .andNot .u32 a1 3)
              · rw [if_pos c33] at H
                have c33b0 : (t305 == (Go.bits .andNot .u32 a1 3)) = true := beq_iff_eq.mpr c33
                have c33b1 : (t305 != (Go.bits .andNot .u32 a1 3)) = false := bne_eq_false_iff_eq.mpr c33
                clear c33
                replace H := Option.bind_eq_some_iff.mp H
                obtain ⟨⟨t317, t318, t319, t320, t321, t322, t323, t324, t325, t326, t327, t328⟩, A340, H⟩ := H
                replace H : ((csr_File_Set.f t318 t319 t320 t321 t322 t323 t324 t325 t326 t327 t328 768 t254).bind fun bt329 => ((csr_File_Return.f bt329.2.1 bt329.2.2.1 bt329.2.2.2.1 bt329.2.2.2.2.1 bt329.2.2.2.2.2.1 bt329.2.2.2.2.2.2.1 bt329.2.2.2.2.2.2.2.1 bt329.2.2.2.2.2.2.2.2.1 bt329.2.2.2.2.2.2.2.2.2.1 bt329.2.2.2.2.2.2.2.2.2.2.1 bt329.2.2.2.2.2.2.2.2.2.2.2).bind fun bt341 => ((csr_File_Get.f bt341.2.1 bt341.2.2.1 bt341.2.2.2.1 bt341.2.2.2.2.1 bt341.2.2.2.2.2.1 bt341.2.2.2.2.2.2.1 bt341.2.2.2.2.2.2.2.1 bt341.2.2.2.2.2.2.2.2.1 bt341.2.2.2.2.2.2.2.2.2.1 bt341.2.2.2.2.2.2.2.2.2.2.1 bt341.2.2.2.2.2.2.2.2.2.2.2 768).bind fun bt353 => (if true = true then (if bt341.1 = (Go.bits .andNot .u32 a0 3) then (if (((Go.bits .and .u32 bt353.1 8) != 0) == a2) = true then ((csr_File_Mode.f bt353.2.2.1 bt353.2.2.2.1 bt353.2.2.2.2.1 bt353.2.2.2.2.2.1 bt353.2.2.2.2.2.2.1 bt353.2.2.2.2.2.2.2.1 bt353.2.2.2.2.2.2.2.2.1 bt353.2.2.2.2.2.2.2.2.2.1 bt353.2.2.2.2.2.2.2.2.2.2.1 bt353.2.2.2.2.2.2.2.2.2.2.2.1 bt353.2.2.2.2.2.2.2.2.2.2.2.2).bind fun bt366 => (some (bt366.1 == 3))) else (some false)) else (some false)) else (some false))))) = some r := H
                have A34 := Aside0.mk A340
                clear A340
                replace H := Option.bind_eq_some_iff.mp H
                obtain ⟨⟨t329, t330, t331, t332, t333, t334, t335, t336, t337, t338, t339, t340⟩, A350, H⟩ := H
                replace H : ((csr_File_Return.f t330 t331 t332 t333 t334 t335 t336 t337 t338 t339 t340).bind fun bt341 => ((csr_File_Get.f bt341.2.1 bt341.2.2.1 bt341.2.2.2.1 bt341.2.2.2.2.1 bt341.2.2.2.2.2.1 bt341.2.2.2.2.2.2.1 bt341.2.2.2.2.2.2.2.1 bt341.2.2.2.2.2.2.2.2.1 bt341.2.2.2.2.2.2.2.2.2.1 bt341.2.2.2.2.2.2.2.2.2.2.1 bt341.2.2.2.2.2.2.2.2.2.2.2 768).bind fun bt353 => (if true = true then (if bt341.1 = (Go.bits .andNot .u32 a0 3) then (if (((Go.bits .and .u32 bt353.1 8) != 0) == a2) = true then ((csr_File_Mode.f bt353.2.2.1 bt353.2.2.2.1 bt353.2.2.2.2.1 bt353.2.2.2.2.2.1 bt353.2.2.2.2.2.2.1 bt353.2.2.2.2.2.2.2.1 bt353.2.2.2.2.2.2.2.2.1 bt353.2.2.2.2.2.2.2.2.2.1 bt353.2.2.2.2.2.2.2.2.2.2.1 bt353.2.2.2.2.2.2.2.2.2.2.2.1 bt353.2.2.2.2.2.2.2.2.2.2.2.2).bind fun bt366 => (some (bt366.1 == 3))) else (some false)) else (some false)) else (some false)))) = some r := H
                have A35 := Aside0.mk A350
                clear A350
                replace H := Option.bind_eq_some_iff.mp H
                obtain ⟨⟨t341, t342, t343, t344, t345, t346, t347, t348, t349, t350, t351, t352⟩, A360, H⟩ := H
                replace H : ((csr_File_Get.f t342 t343 t344 t345 t346 t347 t348 t349 t350 t351 t352 768).bind fun bt353 => (if true = true then (if t341 = (Go.bits .andNot .u32 a0 3) then (if (((Go.bits .and .u32 bt353.1 8) != 0) == a2) = true then ((csr_File_Mode.f bt353.2.2.1 bt353.2.2.2.1 bt353.2.2.2.2.1 bt353.2.2.2.2.2.1 bt353.2.2.2.2.2.2.1 bt353.2.2.2.2.2.2.2.1 bt353.2.2.2.2.2.2.2.2.1 bt353.2.2.2.2.2.2.2.2.2.1 bt353.2.2.2.2.2.2.2.2.2.2.1 bt353.2.2.2.2.2.2.2.2.2.2.2.1 bt353.2.2.2.2.2.2.2.2.2.2.2.2).bind fun bt366 => (some (bt366.1 == 3))) else (some false)) else (some false)) else (some false))) = some r := H
                have A36 := Aside0.mk A360
                clear A360
                replace H := Option.bind_eq_some_iff.mp H
                obtain ⟨⟨t353, t354, t355, t356, t357, t358, t359, t360, t361, t362, t363, t364, t365⟩, A370, H⟩ := H
                replace H : (if true = true then (if t341 = (Go.bits .andNot .u32 a0 3) then (if (((Go.bits .and .u32 t353 8) != 0) == a2) = true then ((csr_File_Mode.f t355 t356 t357 t358 t359 t360 t361 t362 t363 t364 t365).bind fun bt366 => (some (bt366.1 == 3))) else (some false)) else (some false)) else (some false)) = some r := H
                have A37 := Aside0.mk A370
                clear A370
                replace H : (if t341 = (Go.bits .andNot .u32 a0 3) then (if (((Go.bits .and .u32 t353 8) != 0) == a2) = true then ((csr_File_Mode.f t355 t356 t357 t358 t359 t360 t361 t362 t363 t364 t365).bind fun bt366 => (some (bt366.1 == 3))) else (some false)) else (some false)) = some r := by first | (rw [if_pos rfl] at H; exact H) | (rw [if_pos trivial] at H; exact H)
                by_cases c38 : t341 = (Go.bits .andNot .u32 a0 3)
                · rw [if_pos c38] at H
                  have c38b0 : (t341 == (Go.bits .andNot .u32 a0 3)) = true := beq_iff_eq.mpr c38
                  have c38b1 : (t341 != (Go.bits .andNot .u32 a0 3)) = false := bne_eq_false_iff_eq.mpr c38
                  clear c38
                  by_cases c39 : (((Go.bits .and .u32 t353 8) != 0) == a2) = true
                  · rw [if_pos c39] at H
                    have c39b0 : (((Go.bits .and .u32 t353 8) != 0) == a2) = true := c39
                    (try (have c39b1 : decide (((Go.bits .and .u32 t353 8) != 0) = a2) = true := by simpa using c39))
                    (try (have c39b2 : (((Go.bits .and .u32 t353 8) != 0) == a2) = true := by simpa using c39))
                    clear c39
                    replace H := Option.bind_eq_some_iff.mp H
                    obtain ⟨⟨t366, t367, t368, t369, t370, t371, t372, t373, t374, t375, t376, t377⟩, A400, H⟩ := H
                    replace H : (some (t366 == 3)) = some r := H
                    have A40 := Aside0.mk A400
                    clear A400
                    clear HRT
                    obtain rfl := Option.some.inj H
                    go_wp2_with (first | ((with_reducible refine gate_callee (f := 26) rfl ?_); refine goesL_ (some 66) rfl rfl Try.func26 (by kernel_rfl) rfl #[.pointer (some ⟨gb216, 0, none⟩)] rfl (by (try simp only [List.map_toArray, List.map_cons, List.map_nil]); first | done | rfl | (simp only [List.length_drop, List.length_take]; rfl)) ?_; (with_reducible refine (csr_File_Return.calls gb216 t294 t295 t296 t297 t298 t299 t300 t301 t302 t303 t304 t305 t306 t307 t308 t309 t310 t311 t312 t313 t314 t315 t316 w _ ?side1 ?side2 A32.out).mono ?_); (case side1 => exact And.intro (by (with_reducible repeat (first | refine blk_drewN ?_ _ | refine blk_drew ?_ | refine blk_alloc ?_ _)); exact BK216.out) GW216.out); (case side2 => repeat (first | (with_reducible first | exact HB.out | apply below_alloc | apply pw_below_drewN | apply below_drew1 | refine below_set ?_ GE216.out) | exact HB.out)); rintro e w41 ⟨rfl, hi, hb, hk⟩; refine ⟨_, rfl, ?_⟩; have n0_ := Aside0.mk (hb); have n1_ := Aside0.mk ((And.left hi)); clear HB; clear BK216; have HB := n0_; have BK216 := n1_; clear n0_ n1_; (try clear hb); (try clear hb2); (try clear hk); (try clear hi)) | ((with_reducible refine gate_callee (f := 22) rfl ?_); refine goesL_ (some 71) rfl rfl Try.func22 (by kernel_rfl) rfl #[.pointer (some ⟨gb216, 0, none⟩), .int .i64 833, .int .u32 t241] rfl (by (try simp only [List.map_toArray, List.map_cons, List.map_nil]); first | done | rfl | (simp only [List.length_drop, List.length_take]; rfl)) ?_; (with_reducible refine (csr_File_Set.calls gb216 t306 t307 t308 t309 t310 t311 t312 t313 t314 t315 t316 833 t241 t317 t318 t319 t320 t321 t322 t323 t324 t325 t326 t327 t328 w _ ?side1 ?side2 A34.out).mono ?_); (case side1 => exact And.intro (by (with_reducible repeat (first | refine blk_drewN ?_ _ | refine blk_drew ?_ | refine blk_alloc ?_ _)); exact BK216.out) GW216.out); (case side2 => repeat (first | (with_reducible first | exact HB.out | apply below_alloc | apply pw_below_drewN | apply below_drew1 | refine below_set ?_ GE216.out) | exact HB.out)); rintro e w42 ⟨rfl, hi, hb, hk⟩; refine ⟨_, rfl, ?_⟩; have n0_ := Aside0.mk (hb); have n1_ := Aside0.mk ((And.left hi)); clear HB; clear BK216; have HB := n0_; have BK216 := n1_; clear n0_ n1_; (try clear hb); (try clear hb2); (try clear hk); (try clear hi)) | ((with_reducible refine gate_callee (f := 22) rfl ?_); refine goesL_ (some 73) rfl rfl Try.func22 (by kernel_rfl) rfl #[.pointer (some ⟨gb216, 0, none⟩), .int .i64 768, .int .u32 t254] rfl (by (try simp only [List.map_toArray, List.map_cons, List.map_nil]); first | done | rfl | (simp only [List.length_drop, List.length_take]; rfl)) ?_; (with_reducible refine (csr_File_Set.calls gb216 t318 t319 t320 t321 t322 t323 t324 t325 t326 t327 t328 768 t254 t329 t330 t331 t332 t333 t334 t335 t336 t337 t338 t339 t340 w _ ?side1 ?side2 A35.out).mono ?_); (case side1 => exact And.intro (by (with_reducible repeat (first | refine blk_drewN ?_ _ | refine blk_drew ?_ | refine blk_alloc ?_ _)); exact BK216.out) GW216.out); (case side2 => repeat (first | (with_reducible first | exact HB.out | apply below_alloc | apply pw_below_drewN | apply below_drew1 | refine below_set ?_ GE216.out) | exact HB.out)); rintro e w43 ⟨rfl, hi, hb, hk⟩; refine ⟨_, rfl, ?_⟩; have n0_ := Aside0.mk (hb); have n1_ := Aside0.mk ((And.left hi)); clear HB; clear BK216; have HB := n0_; have BK216 := n1_; clear n0_ n1_; (try clear hb); (try clear hb2); (try clear hk); (try clear hi)) | ((with_reducible refine gate_callee (f := 26) rfl ?_); refine goesL_ (some 74) rfl rfl Try.func26 (by kernel_rfl) rfl #[.pointer (some ⟨gb216, 0, none⟩)] rfl (by (try simp only [List.map_toArray, List.map_cons, List.map_nil]); first | done | rfl | (simp only [List.length_drop, List.length_take]; rfl)) ?_; (with_reducible refine (csr_File_Return.calls gb216 t330 t331 t332 t333 t334 t335 t336 t337 t338 t339 t340 t341 t342 t343 t344 t345 t346 t347 t348 t349 t350 t351 t352 w _ ?side1 ?side2 A36.out).mono ?_); (case side1 => exact And.intro (by (with_reducible repeat (first | refine blk_drewN ?_ _ | refine blk_drew ?_ | refine blk_alloc ?_ _)); exact BK216.out) GW216.out); (case side2 => repeat (first | (with_reducible first | exact HB.out | apply below_alloc | apply pw_below_drewN | apply below_drew1 | refine below_set ?_ GE216.out) | exact HB.out)); rintro e w44 ⟨rfl, hi, hb, hk⟩; refine ⟨_, rfl, ?_⟩; have n0_ := Aside0.mk (hb); have n1_ := Aside0.mk ((And.left hi)); clear HB; clear BK216; have HB := n0_; have BK216 := n1_; clear n0_ n1_; (try clear hb); (try clear hb2); (try clear hk); (try clear hi)) | ((with_reducible refine gate_callee (f := 23) rfl ?_); refine goesL_ (some 76) rfl rfl Try.func23 (by kernel_rfl) rfl #[.pointer (some ⟨gb216, 0, none⟩), .int .i64 768] rfl (by (try simp only [List.map_toArray, List.map_cons, List.map_nil]); first | done | rfl | (simp only [List.length_drop, List.length_take]; rfl)) ?_; (with_reducible refine (csr_File_Get.calls gb216 t342 t343 t344 t345 t346 t347 t348 t349 t350 t351 t352 768 t353 t354 t355 t356 t357 t358 t359 t360 t361 t362 t363 t364 t365 w _ ?side1 ?side2 A37.out).mono ?_); (case side1 => exact And.intro (by (with_reducible repeat (first | refine blk_drewN ?_ _ | refine blk_drew ?_ | refine blk_alloc ?_ _)); exact BK216.out) GW216.out); (case side2 => repeat (first | (with_reducible first | exact HB.out | apply below_alloc | apply pw_below_drewN | apply below_drew1 | refine below_set ?_ GE216.out) | exact HB.out)); rintro e w45 ⟨rfl, hi, hb, hk⟩; refine ⟨_, rfl, ?_⟩; have n0_ := Aside0.mk (hb); have n1_ := Aside0.mk ((And.left hi)); clear HB; clear BK216; have HB := n0_; have BK216 := n1_; clear n0_ n1_; (try clear hb); (try clear hb2); (try clear hk); (try clear hi)) | (go_at_call 27; (with_reducible refine (csr_File_Mode.calls gb216 t355 t356 t357 t358 t359 t360 t361 t362 t363 t364 t365 t366 t367 t368 t369 t370 t371 t372 t373 t374 t375 t376 t377 w _ ?side1 ?side2 A40.out).mono ?_); (case side1 => exact And.intro (by (with_reducible repeat (first | refine blk_drewN ?_ _ | refine blk_drew ?_ | refine blk_alloc ?_ _)); exact BK216.out) GW216.out); (case side2 => repeat (first | (with_reducible first | exact HB.out | apply below_alloc | apply pw_below_drewN | apply below_drew1 | refine below_set ?_ GE216.out) | exact HB.out)); rintro e w46 ⟨rfl, hi, hb, hk⟩; have n0_ := Aside0.mk (hb); have n1_ := Aside0.mk ((And.left hi)); clear HB; clear BK216; have HB := n0_; have BK216 := n1_; clear n0_ n1_; (try clear hb); (try clear hb2); (try clear hk); (try clear hi)))
                    go_ret
                    exact ⟨by first | rfl | (simp [errW_none, errW_some] <;> rfl) | (simp [*, errW_none, errW_some] <;> rfl), by repeat (first | (with_reducible first | exact HB.out | apply below_alloc | apply pw_below_drewN | apply below_drew1 | refine below_set ?_ GE216.out) | exact HB.out)⟩
                  · rw [if_neg c39] at H
                    have c39b0 : (((Go.bits .and .u32 t353 8) != 0) == a2) = false := by simpa using c39
                    (try (have c39b1 : decide (((Go.bits .and .u32 t353 8) != 0) = a2) = false := by simpa using c39))
                    (try (have c39b2 : (((Go.bits .and .u32 t353 8) != 0) == a2) = false := by simpa using c39))
                    (try (have c39b3 : ¬ (((Go.bits .and .u32 t353 8) != 0) = a2) := by simpa using c39))
                    clear c39
                    exact absurd (Option.some.inj H) (by rw [HRT.out]; decide)
                · rw [if_neg c38] at H
                  have c38b0 : (t341 == (Go.bits .andNot .u32 a0 3)) = false := beq_eq_false_iff_ne.mpr c38
                  have c38b1 : (t341 != (Go.bits .andNot .u32 a0 3)) = true := bne_iff_ne.mpr c38
                  exact absurd (Option.some.inj H) (by rw [HRT.out]; decide)
              · rw [if_neg c33] at H
                have c33b0 : (t305 == (Go.bits .andNot .u32 a1 3)) = false := beq_eq_false_iff_ne.mpr c33
                have c33b1 : (t305 != (Go.bits .andNot .u32 a1 3)) = true := bne_iff_ne.mpr c33
                exact absurd (Option.some.inj H) (by rw [HRT.out]; decide)
  · replace c5 := Bool.eq_false_iff.mpr c5
    subst c5
    have H1 : (some false) = some r := by rw [if_neg (show ¬ (false = true) by decide)] at H; exact H
    clear H
    have H := H1
    clear H1
    exact absurd (Option.some.inj H) (by rw [HRT.out]; decide)

/-- THE ONE PURE STATEMENT of corrallaw6_CsrNests: yours. -/
def corrallaw6_CsrNests.Pure : Prop := ∀ (a0 : Int) (a1 : Int) (a2 : Bool), (Lit.int .u32 a0).wf = true → (Lit.int .u32 a1).wf = true → ∃ k, corrallaw6_CsrNests.f k a0 a1 a2 = some true
theorem corrallaw6_CsrNests.walk (P : corrallaw6_CsrNests.Pure) (a0 : Int) (a1 : Int) (a2 : Bool) (w : World) (w0 : (Lit.int .u32 a0).wf = true) (w1 : (Lit.int .u32 a1).wf = true) :
    Calls Try.prog 9 #[.int .u32 a0, .int .u32 a1, .bool a2] w fun e w' => e = .returned (.bool true) ∧ Below w.heap.size w w' := by
  obtain ⟨k, h⟩ := P a0 a1 a2 w0 w1
  refine (corrallaw6_CsrNests.calls k a0 a1 a2 true w h rfl).mono ?_
  rintro e w' ⟨rfl, hd⟩
  exact ⟨rfl, hd⟩

end Go.Proofs.Ytcaohimipkoapaa.QCsrNests
