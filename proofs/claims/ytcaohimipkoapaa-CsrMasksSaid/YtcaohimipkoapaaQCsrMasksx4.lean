-- Laid by a program of this session (wip/tpl/mine.sh), out of the program's form in Lean: Lean checks it.
import Derived.Test.YtcaohimipkoapaaQCsrMasksx0
import Derived.Test.YtcaohimipkoapaaQCsrMasksx1
import Derived.Test.YtcaohimipkoapaaQCsrMasksx2
import Derived.Test.YtcaohimipkoapaaQCsrMasksx3
namespace Go.Proofs.Ytcaohimipkoapaa.QCsrMasks
open Go.RowKit Go.Proofs.YtcaohimipkoapaaW.PrintWords Go.Proofs.YtcaohimipkoapaaW.PrintLast Go.Proofs.YtcaohimipkoapaaW.PrintMore
attribute [local go_sem] max2_int min2_int max_two min_two max_three min_three max_four min_four   -- for this text's walks alone
set_option linter.unusedVariables false
set_option linter.unusedSimpArgs false

/-! ### corrallaw6_CsrMasks: function 7 -/
mutual
def corrallaw6_CsrMasks.l0 : Nat → Int → Int → Bool → List Int → List Int → Int → Bool → Int → Int → Int → Int → Int → Int → Int → Int → Int → Int → Option (Bool)
  | 0, _, _, _, _, _, _, _, _, _, _, _, _, _, _, _, _, _ => none
  | k + 1, x0, x1, x5, x7, x8, x9, x207000, x207001, x207002, x207003, x207004, x207005, x207006, x207007, x207008, x207009, x207010 => if x9 < (x7.length : Int) then (if 0 ≤ x9 then ((csr_File_Set.f x207000 x207001 x207002 x207003 x207004 x207005 x207006 x207007 x207008 x207009 x207010 (rd x7 x9) x1).bind fun bt253 => (if bt253.1 = true then ((csr_File_Set.f bt253.2.1 bt253.2.2.1 bt253.2.2.2.1 bt253.2.2.2.2.1 bt253.2.2.2.2.2.1 bt253.2.2.2.2.2.2.1 bt253.2.2.2.2.2.2.2.1 bt253.2.2.2.2.2.2.2.2.1 bt253.2.2.2.2.2.2.2.2.2.1 bt253.2.2.2.2.2.2.2.2.2.2.1 bt253.2.2.2.2.2.2.2.2.2.2.2 (rd x7 x9) x0).bind fun bt266 => (corrallaw6_CsrMasks.j1 k x0 x1 x5 x7 x8 x9 (!bt266.1) bt266.2.1 bt266.2.2.1 bt266.2.2.2.1 bt266.2.2.2.2.1 bt266.2.2.2.2.2.1 bt266.2.2.2.2.2.2.1 bt266.2.2.2.2.2.2.2.1 bt266.2.2.2.2.2.2.2.2.1 bt266.2.2.2.2.2.2.2.2.2.1 bt266.2.2.2.2.2.2.2.2.2.2.1 bt266.2.2.2.2.2.2.2.2.2.2.2)) else (corrallaw6_CsrMasks.j1 k x0 x1 x5 x7 x8 x9 true bt253.2.1 bt253.2.2.1 bt253.2.2.2.1 bt253.2.2.2.2.1 bt253.2.2.2.2.2.1 bt253.2.2.2.2.2.2.1 bt253.2.2.2.2.2.2.2.1 bt253.2.2.2.2.2.2.2.2.1 bt253.2.2.2.2.2.2.2.2.2.1 bt253.2.2.2.2.2.2.2.2.2.2.1 bt253.2.2.2.2.2.2.2.2.2.2.2))) else (none)) else ((csr_File_Get.f x207000 x207001 x207002 x207003 x207004 x207005 x207006 x207007 x207008 x207009 x207010 3860).bind fun bt213 => (if x5 = true then (if bt213.1 = 2 then ((csr_File_Satp.f bt213.2.2.1 bt213.2.2.2.1 bt213.2.2.2.2.1 bt213.2.2.2.2.2.1 bt213.2.2.2.2.2.2.1 bt213.2.2.2.2.2.2.2.1 bt213.2.2.2.2.2.2.2.2.1 bt213.2.2.2.2.2.2.2.2.2.1 bt213.2.2.2.2.2.2.2.2.2.2.1 bt213.2.2.2.2.2.2.2.2.2.2.2.1 bt213.2.2.2.2.2.2.2.2.2.2.2.2).bind fun bt226 => (if bt226.1 = (Go.bits .and .u32 x0 2151677951) then ((csr_File_All.f bt226.2.1 bt226.2.2.1 bt226.2.2.2.1 bt226.2.2.2.2.1 bt226.2.2.2.2.2.1 bt226.2.2.2.2.2.2.1 bt226.2.2.2.2.2.2.2.1 bt226.2.2.2.2.2.2.2.2.1 bt226.2.2.2.2.2.2.2.2.2.1 bt226.2.2.2.2.2.2.2.2.2.2.1 bt226.2.2.2.2.2.2.2.2.2.2.2).bind fun bt238 => (some ((bt238.1.length : Int) == 10))) else (some false))) else (some false)) else (some false)))
def corrallaw6_CsrMasks.j1 : Nat → Int → Int → Bool → List Int → List Int → Int → Bool → Bool → Int → Int → Int → Int → Int → Int → Int → Int → Int → Int → Option (Bool)
  | 0, _, _, _, _, _, _, _, _, _, _, _, _, _, _, _, _, _, _ => none
  | k + 1, x0, x1, x5, x7, x8, x9, x42, x207000, x207001, x207002, x207003, x207004, x207005, x207006, x207007, x207008, x207009, x207010 => if x42 = true then (some false) else (if 0 ≤ x9 then (if x9 < (x7.length : Int) then ((csr_File_Get.f x207000 x207001 x207002 x207003 x207004 x207005 x207006 x207007 x207008 x207009 x207010 (rd x7 x9)).bind fun bt279 => (if x9 < (x8.length : Int) then (if (rd x7 x9) = 768 then (corrallaw6_CsrMasks.j2 k x0 x1 x5 x7 x8 x9 bt279.1 bt279.2.1 (Go.bits .and .u32 x0 (rd x8 x9)) ((Go.bits .and .u32 x0 6144) == 6144) bt279.2.2.1 bt279.2.2.2.1 bt279.2.2.2.2.1 bt279.2.2.2.2.2.1 bt279.2.2.2.2.2.2.1 bt279.2.2.2.2.2.2.2.1 bt279.2.2.2.2.2.2.2.2.1 bt279.2.2.2.2.2.2.2.2.2.1 bt279.2.2.2.2.2.2.2.2.2.2.1 bt279.2.2.2.2.2.2.2.2.2.2.2.1 bt279.2.2.2.2.2.2.2.2.2.2.2.2) else (corrallaw6_CsrMasks.j2 k x0 x1 x5 x7 x8 x9 bt279.1 bt279.2.1 (Go.bits .and .u32 x0 (rd x8 x9)) false bt279.2.2.1 bt279.2.2.2.1 bt279.2.2.2.2.1 bt279.2.2.2.2.2.1 bt279.2.2.2.2.2.2.1 bt279.2.2.2.2.2.2.2.1 bt279.2.2.2.2.2.2.2.2.1 bt279.2.2.2.2.2.2.2.2.2.1 bt279.2.2.2.2.2.2.2.2.2.2.1 bt279.2.2.2.2.2.2.2.2.2.2.2.1 bt279.2.2.2.2.2.2.2.2.2.2.2.2)) else (none))) else (none)) else (none))
def corrallaw6_CsrMasks.j2 : Nat → Int → Int → Bool → List Int → List Int → Int → Int → Bool → Int → Bool → Bool → Int → Int → Int → Int → Int → Int → Int → Int → Int → Int → Option (Bool)
  | 0, _, _, _, _, _, _, _, _, _, _, _, _, _, _, _, _, _, _, _, _, _ => none
  | k + 1, x0, x1, x5, x7, x8, x9, x10, x11, x12, x66, x207000, x207001, x207002, x207003, x207004, x207005, x207006, x207007, x207008, x207009, x207010 => if x66 = true then (if x11 = true then (if x10 = (Go.bits .or .u32 x12 6144) then (corrallaw6_CsrMasks.l0 k x0 x1 x5 x7 x8 (wrap64 (x9 + 1)) x207000 x207001 x207002 x207003 x207004 x207005 x207006 x207007 x207008 x207009 x207010) else (some false)) else (some false)) else (if x11 = true then (if x10 = x12 then (corrallaw6_CsrMasks.l0 k x0 x1 x5 x7 x8 (wrap64 (x9 + 1)) x207000 x207001 x207002 x207003 x207004 x207005 x207006 x207007 x207008 x207009 x207010) else (some false)) else (some false))
end
def corrallaw6_CsrMasks.f (k : Nat) (a0 : Int) (a1 : Int) : Option (Bool) := (corrallaw6_first.f).bind fun t194 => (if t194 = true then ((csr_New.f 2).bind fun bt195 => (corrallaw6_CsrMasks.l0 k a0 a1 t194 (([384, 768, 772, 773, 832, 833, 834, 835, 836] : List Int)) (([2151677951, 136, 8, 4294967292, 4294967295, 4294967292, 4294967295, 4294967295, 0] : List Int)) 0 bt195.1 bt195.2.1 bt195.2.2.1 bt195.2.2.2.1 bt195.2.2.2.2.1 bt195.2.2.2.2.2.1 bt195.2.2.2.2.2.2.1 bt195.2.2.2.2.2.2.2.1 bt195.2.2.2.2.2.2.2.2.1 bt195.2.2.2.2.2.2.2.2.2.1 bt195.2.2.2.2.2.2.2.2.2.2)) else (some false))
theorem corrallaw6_CsrMasks.mono_l : ∀ k, (∀ y0 y1 y2 y3 y4 y5 y6 y7 y8 y9 y10 y11 y12 y13 y14 y15 y16, LeO (corrallaw6_CsrMasks.l0 k y0 y1 y2 y3 y4 y5 y6 y7 y8 y9 y10 y11 y12 y13 y14 y15 y16) (corrallaw6_CsrMasks.l0 (k + 1) y0 y1 y2 y3 y4 y5 y6 y7 y8 y9 y10 y11 y12 y13 y14 y15 y16)) ∧ (∀ y0 y1 y2 y3 y4 y5 y6 y7 y8 y9 y10 y11 y12 y13 y14 y15 y16 y17, LeO (corrallaw6_CsrMasks.j1 k y0 y1 y2 y3 y4 y5 y6 y7 y8 y9 y10 y11 y12 y13 y14 y15 y16 y17) (corrallaw6_CsrMasks.j1 (k + 1) y0 y1 y2 y3 y4 y5 y6 y7 y8 y9 y10 y11 y12 y13 y14 y15 y16 y17)) ∧ (∀ y0 y1 y2 y3 y4 y5 y6 y7 y8 y9 y10 y11 y12 y13 y14 y15 y16 y17 y18 y19 y20, LeO (corrallaw6_CsrMasks.j2 k y0 y1 y2 y3 y4 y5 y6 y7 y8 y9 y10 y11 y12 y13 y14 y15 y16 y17 y18 y19 y20) (corrallaw6_CsrMasks.j2 (k + 1) y0 y1 y2 y3 y4 y5 y6 y7 y8 y9 y10 y11 y12 y13 y14 y15 y16 y17 y18 y19 y20))
  | 0 => ⟨fun _ _ _ _ _ _ _ _ _ _ _ _ _ _ _ _ _ r h => by simp [corrallaw6_CsrMasks.l0] at h, fun _ _ _ _ _ _ _ _ _ _ _ _ _ _ _ _ _ _ r h => by simp [corrallaw6_CsrMasks.j1] at h, fun _ _ _ _ _ _ _ _ _ _ _ _ _ _ _ _ _ _ _ _ _ r h => by simp [corrallaw6_CsrMasks.j2] at h⟩
  | k + 1 => by
    obtain ⟨ih0, ih1, ih2⟩ := corrallaw6_CsrMasks.mono_l k
    refine ⟨?_, ?_, ?_⟩
    · intro y0 y1 y2 y3 y4 y5 y6 y7 y8 y9 y10 y11 y12 y13 y14 y15 y16
      unfold corrallaw6_CsrMasks.l0
      repeat' first
      | (with_reducible exact ih0 _ _ _ _ _ _ _ _ _ _ _ _ _ _ _ _ _)
      | (with_reducible exact ih1 _ _ _ _ _ _ _ _ _ _ _ _ _ _ _ _ _ _)
      | (with_reducible exact ih2 _ _ _ _ _ _ _ _ _ _ _ _ _ _ _ _ _ _ _ _ _)
      | (with_reducible exact LeO.refl _)
      | (with_reducible exact LeO.none _)
      | (with_reducible refine LeO.ite ?_ ?_)
      | (with_reducible refine LeO.bind ?_ (fun _ => ?_))
      | exact ih0 _ _ _ _ _ _ _ _ _ _ _ _ _ _ _ _ _
      | exact ih1 _ _ _ _ _ _ _ _ _ _ _ _ _ _ _ _ _ _
      | exact ih2 _ _ _ _ _ _ _ _ _ _ _ _ _ _ _ _ _ _ _ _ _
      | exact LeO.none _
      | refine LeO.ite ?_ ?_
      | refine LeO.bind ?_ (fun _ => ?_)
    · intro y0 y1 y2 y3 y4 y5 y6 y7 y8 y9 y10 y11 y12 y13 y14 y15 y16 y17
      unfold corrallaw6_CsrMasks.j1
      repeat' first
      | (with_reducible exact ih0 _ _ _ _ _ _ _ _ _ _ _ _ _ _ _ _ _)
      | (with_reducible exact ih1 _ _ _ _ _ _ _ _ _ _ _ _ _ _ _ _ _ _)
      | (with_reducible exact ih2 _ _ _ _ _ _ _ _ _ _ _ _ _ _ _ _ _ _ _ _ _)
      | (with_reducible exact LeO.refl _)
      | (with_reducible exact LeO.none _)
      | (with_reducible refine LeO.ite ?_ ?_)
      | (with_reducible refine LeO.bind ?_ (fun _ => ?_))
      | exact ih0 _ _ _ _ _ _ _ _ _ _ _ _ _ _ _ _ _
      | exact ih1 _ _ _ _ _ _ _ _ _ _ _ _ _ _ _ _ _ _
      | exact ih2 _ _ _ _ _ _ _ _ _ _ _ _ _ _ _ _ _ _ _ _ _
      | exact LeO.none _
      | refine LeO.ite ?_ ?_
      | refine LeO.bind ?_ (fun _ => ?_)
    · intro y0 y1 y2 y3 y4 y5 y6 y7 y8 y9 y10 y11 y12 y13 y14 y15 y16 y17 y18 y19 y20
      unfold corrallaw6_CsrMasks.j2
      repeat' first
      | (with_reducible exact ih0 _ _ _ _ _ _ _ _ _ _ _ _ _ _ _ _ _)
      | (with_reducible exact ih1 _ _ _ _ _ _ _ _ _ _ _ _ _ _ _ _ _ _)
      | (with_reducible exact ih2 _ _ _ _ _ _ _ _ _ _ _ _ _ _ _ _ _ _ _ _ _)
      | (with_reducible exact LeO.refl _)
      | (with_reducible exact LeO.none _)
      | (with_reducible refine LeO.ite ?_ ?_)
      | (with_reducible refine LeO.bind ?_ (fun _ => ?_))
      | exact ih0 _ _ _ _ _ _ _ _ _ _ _ _ _ _ _ _ _
      | exact ih1 _ _ _ _ _ _ _ _ _ _ _ _ _ _ _ _ _ _
      | exact ih2 _ _ _ _ _ _ _ _ _ _ _ _ _ _ _ _ _ _ _ _ _
      | exact LeO.none _
      | refine LeO.ite ?_ ?_
      | refine LeO.bind ?_ (fun _ => ?_)
theorem corrallaw6_CsrMasks.mono : ∀ a0 a1 k, LeO (corrallaw6_CsrMasks.f k a0 a1) (corrallaw6_CsrMasks.f (k + 1) a0 a1) := by
  intro a0 a1 k
  obtain ⟨ih0, ih1, ih2⟩ := corrallaw6_CsrMasks.mono_l k
  unfold corrallaw6_CsrMasks.f
  repeat' first
      | (with_reducible exact ih0 _ _ _ _ _ _ _ _ _ _ _ _ _ _ _ _ _)
      | (with_reducible exact ih1 _ _ _ _ _ _ _ _ _ _ _ _ _ _ _ _ _ _)
      | (with_reducible exact ih2 _ _ _ _ _ _ _ _ _ _ _ _ _ _ _ _ _ _ _ _ _)
      | (with_reducible exact LeO.refl _)
      | (with_reducible exact LeO.none _)
      | (with_reducible refine LeO.ite ?_ ?_)
      | (with_reducible refine LeO.bind ?_ (fun _ => ?_))
      | exact ih0 _ _ _ _ _ _ _ _ _ _ _ _ _ _ _ _ _
      | exact ih1 _ _ _ _ _ _ _ _ _ _ _ _ _ _ _ _ _ _
      | exact ih2 _ _ _ _ _ _ _ _ _ _ _ _ _ _ _ _ _ _ _ _ _
      | exact LeO.none _
      | refine LeO.ite ?_ ?_
      | refine LeO.bind ?_ (fun _ => ?_)
set_option maxHeartbeats 8000000 in
set_option maxRecDepth 100000 in
theorem corrallaw6_CsrMasks.calls (k : Nat) (a0 : Int) (a1 : Int) (r : Bool) (w : World) (h : corrallaw6_CsrMasks.f k a0 a1 = some r) (hrtrue : r = true) :
    Calls Try.prog 7 #[.int .u32 a0, .int .u32 a1] w fun e w' => e = .returned (.bool r) ∧ Below w.heap.size w w' := by
  have hu38 := Try.underlying38
  have HB := Aside0.mk (Below.refl w.heap.size w)
  have H : ((corrallaw6_first.f).bind fun t194 => (if t194 = true then ((csr_New.f 2).bind fun bt195 => (corrallaw6_CsrMasks.l0 k a0 a1 t194 (([384, 768, 772, 773, 832, 833, 834, 835, 836] : List Int)) (([2151677951, 136, 8, 4294967292, 4294967295, 4294967292, 4294967295, 4294967295, 0] : List Int)) 0 bt195.1 bt195.2.1 bt195.2.2.1 bt195.2.2.2.1 bt195.2.2.2.2.1 bt195.2.2.2.2.2.1 bt195.2.2.2.2.2.2.1 bt195.2.2.2.2.2.2.2.1 bt195.2.2.2.2.2.2.2.2.1 bt195.2.2.2.2.2.2.2.2.2.1 bt195.2.2.2.2.2.2.2.2.2.2)) else (some false))) = some r := h
  clear h
  have HRT := Aside0.mk hrtrue
  clear hrtrue
  replace H := Option.bind_eq_some_iff.mp H
  obtain ⟨t194, A30, H⟩ := H
  replace H : (if t194 = true then ((csr_New.f 2).bind fun bt195 => (corrallaw6_CsrMasks.l0 k a0 a1 t194 (([384, 768, 772, 773, 832, 833, 834, 835, 836] : List Int)) (([2151677951, 136, 8, 4294967292, 4294967295, 4294967292, 4294967295, 4294967295, 0] : List Int)) 0 bt195.1 bt195.2.1 bt195.2.2.1 bt195.2.2.2.1 bt195.2.2.2.2.1 bt195.2.2.2.2.2.1 bt195.2.2.2.2.2.2.1 bt195.2.2.2.2.2.2.2.1 bt195.2.2.2.2.2.2.2.2.1 bt195.2.2.2.2.2.2.2.2.2.1 bt195.2.2.2.2.2.2.2.2.2.2)) else (some false)) = some r := H
  have A3 := Aside0.mk A30
  clear A30
  by_cases c4 : t194 = true
  · subst c4
    have H1 : ((csr_New.f 2).bind fun bt195 => (corrallaw6_CsrMasks.l0 k a0 a1 true (([384, 768, 772, 773, 832, 833, 834, 835, 836] : List Int)) (([2151677951, 136, 8, 4294967292, 4294967295, 4294967292, 4294967295, 4294967295, 0] : List Int)) 0 bt195.1 bt195.2.1 bt195.2.2.1 bt195.2.2.2.1 bt195.2.2.2.2.1 bt195.2.2.2.2.2.1 bt195.2.2.2.2.2.2.1 bt195.2.2.2.2.2.2.2.1 bt195.2.2.2.2.2.2.2.2.1 bt195.2.2.2.2.2.2.2.2.2.1 bt195.2.2.2.2.2.2.2.2.2.2)) = some r := by rw [if_pos rfl] at H; exact H
    clear H
    have H := H1
    clear H1
    replace H := Option.bind_eq_some_iff.mp H
    obtain ⟨⟨t195, t196, t197, t198, t199, t200, t201, t202, t203, t204, t205⟩, A50, H⟩ := H
    replace H : (corrallaw6_CsrMasks.l0 k a0 a1 true (([384, 768, 772, 773, 832, 833, 834, 835, 836] : List Int)) (([2151677951, 136, 8, 4294967292, 4294967295, 4294967292, 4294967295, 4294967295, 0] : List Int)) 0 t195 t196 t197 t198 t199 t200 t201 t202 t203 t204 t205) = some r := H
    have A5 := Aside0.mk A50
    clear A50
    obtain ⟨y207, hy207⟩ : ∃ y_ : List Int, y_ = (([384, 768, 772, 773, 832, 833, 834, 835, 836] : List Int)) := ⟨_, rfl⟩
    replace H : (corrallaw6_CsrMasks.l0 k a0 a1 true y207 (([2151677951, 136, 8, 4294967292, 4294967295, 4294967292, 4294967295, 4294967295, 0] : List Int)) 0 t195 t196 t197 t198 t199 t200 t201 t202 t203 t204 t205) = some r := by first | (rw [hy207]; with_reducible exact H) | (have H2_ := (Option.bind_some _ _).symm.trans H; rw [hy207]; with_reducible exact H2_) | (have H2_ := (Option.bind_some _ _).symm.trans H; with_reducible exact H2_) | with_reducible exact H | (rw [hy207]; exact H) | exact H
    have Ny207 := Aside0.mk hy207
    clear hy207
    obtain ⟨y210, hy210⟩ : ∃ y_ : List Int, y_ = (([2151677951, 136, 8, 4294967292, 4294967295, 4294967292, 4294967295, 4294967295, 0] : List Int)) := ⟨_, rfl⟩
    replace H : (corrallaw6_CsrMasks.l0 k a0 a1 true y207 y210 0 t195 t196 t197 t198 t199 t200 t201 t202 t203 t204 t205) = some r := by first | (rw [hy210]; with_reducible exact H) | (have H2_ := (Option.bind_some _ _).symm.trans H; rw [hy210]; with_reducible exact H2_) | (have H2_ := (Option.bind_some _ _).symm.trans H; with_reducible exact H2_) | with_reducible exact H | (rw [hy210]; exact H) | exact H
    have Ny210 := Aside0.mk hy210
    clear hy210
    have H' := Aside0.mk H
    clear H
    go_enter Try.func7, Try.ntmps7
    go_wp2_with (first | ((with_reducible refine gate_callee (f := 20) rfl ?_); refine goesL_ (some 15) rfl rfl Try.func20 (by kernel_rfl) rfl #[] rfl (by (try simp only [List.map_toArray, List.map_cons, List.map_nil]); first | done | rfl | (simp only [List.length_drop, List.length_take]; rfl)) ?_; (with_reducible refine (corrallaw6_first.calls  true _ A3.out).mono ?_); rintro e w6 ⟨rfl, hb⟩; refine ⟨_, rfl, ?_⟩; have n0_ := Aside0.mk (below_step (by repeat (first | (with_reducible first | exact HB.out | apply below_alloc | apply pw_below_drewN | apply below_drew1) | exact HB.out)) hb); clear HB; have HB := n0_; clear n0_; (try clear hb); (try clear hb2); (try clear hk); (try clear hi)) | ((with_reducible refine gate_callee (f := 21) rfl ?_); refine goesL_ (some 18) rfl rfl Try.func21 (by kernel_rfl) rfl #[.int .i64 2] rfl (by (try simp only [List.map_toArray, List.map_cons, List.map_nil]); first | done | rfl | (simp only [List.length_drop, List.length_take]; rfl)) ?_; (with_reducible refine (csr_New.calls 2 t195 t196 t197 t198 t199 t200 t201 t202 t203 t204 t205 _ A5.out).mono ?_); rintro e w7 ⟨rfl, hb⟩; refine ⟨_, rfl, ?_⟩; have n0_ := Aside0.mk (below_step (by repeat (first | (with_reducible first | exact HB.out | apply below_alloc | apply pw_below_drewN | apply below_drew1) | exact HB.out)) hb); clear HB; have HB := n0_; clear n0_; (try clear hb); (try clear hb2); (try clear hk); (try clear hi)) | ((with_reducible refine gate_dst (N := 6) rfl ?_); (try (refine gate_guard (by rfl) ?_; dsimp only)); refine box_event ?hg (N := 6) ?hd (cs := #[.bool false, .int .u32 0, .int .u32 0, .int .u32 0, .int .u32 0, .int .u32 0, .int .u32 0, .int .u32 0, .int .u32 0, .int .u32 0, .int .u32 0]) (t := 38) ?hr ?_; (case hd => rfl); (case hg => rfl); (case hr => first | (go_simp; done) | (go_simp; rfl)); intro gb206 hg w8 hbox hb; have n0_ := Aside0.mk (below_step (by repeat (first | (with_reducible first | exact HB.out | apply below_alloc | apply pw_below_drewN | apply below_drew1) | exact HB.out)) hb); have n1_ := Aside0.mk (hbox); have n2_ := Aside0.mk ((by rw [hg]; exact (below_size (by repeat (first | (with_reducible first | exact HB.out | apply below_alloc | apply pw_below_drewN | apply below_drew1) | exact HB.out))) : w.heap.size ≤ gb206)); have n3_ := Aside0.mk ((by rw [hg]; exact (below_size (by repeat (first | (with_reducible first | exact HB.out | apply below_alloc | apply pw_below_drewN | apply below_drew1) | exact HB.out))) : w.heap.size ≤ gb206)); clear HB; have HB := n0_; have BK206 := n1_; have GW206 := n2_; have GE206 := n3_; clear n0_ n1_ n2_ n3_; clear hb hbox hg; have hcz9_0 : w8.cell? ⟨gb206, 0, none⟩ = some (.bool false) := (blk_cell BK206.out 0).trans rfl; have hcz9_1 : w8.cell? ⟨gb206, 1, none⟩ = some (.int .u32 0) := (blk_cell BK206.out 1).trans rfl; have hcz9_2 : w8.cell? ⟨gb206, 2, none⟩ = some (.int .u32 0) := (blk_cell BK206.out 2).trans rfl; have hcz9_3 : w8.cell? ⟨gb206, 3, none⟩ = some (.int .u32 0) := (blk_cell BK206.out 3).trans rfl; have hcz9_4 : w8.cell? ⟨gb206, 4, none⟩ = some (.int .u32 0) := (blk_cell BK206.out 4).trans rfl; have hcz9_5 : w8.cell? ⟨gb206, 5, none⟩ = some (.int .u32 0) := (blk_cell BK206.out 5).trans rfl; have hcz9_6 : w8.cell? ⟨gb206, 6, none⟩ = some (.int .u32 0) := (blk_cell BK206.out 6).trans rfl; have hcz9_7 : w8.cell? ⟨gb206, 7, none⟩ = some (.int .u32 0) := (blk_cell BK206.out 7).trans rfl; have hcz9_8 : w8.cell? ⟨gb206, 8, none⟩ = some (.int .u32 0) := (blk_cell BK206.out 8).trans rfl; have hcz9_9 : w8.cell? ⟨gb206, 9, none⟩ = some (.int .u32 0) := (blk_cell BK206.out 9).trans rfl; have hcz9_10 : w8.cell? ⟨gb206, 10, none⟩ = some (.int .u32 0) := (blk_cell BK206.out 10).trans rfl; have hfz9_0 := blk_frozen BK206.out 0; have hfz9_1 := blk_frozen BK206.out 1; have hfz9_2 := blk_frozen BK206.out 2; have hfz9_3 := blk_frozen BK206.out 3; have hfz9_4 := blk_frozen BK206.out 4; have hfz9_5 := blk_frozen BK206.out 5; have hfz9_6 := blk_frozen BK206.out 6; have hfz9_7 := blk_frozen BK206.out 7; have hfz9_8 := blk_frozen BK206.out 8; have hfz9_9 := blk_frozen BK206.out 9; have hfz9_10 := blk_frozen BK206.out 10) | ((with_reducible refine gate_dst (N := 19) rfl ?_); (try (refine gate_guard (by rfl) ?_; dsimp only)); refine Kd.R_lit (Kd.int .i64) _ 3 ?hg (N := 19) ?hd (xs := ([384, 768, 772, 773, 832, 833, 834, 835, 836] : List Int)) (inner := [.int .i64 384, .int .i64 768, .int .i64 772, .int .i64 773, .int .i64 832, .int .i64 833, .int .i64 834, .int .i64 835, .int .i64 836]) (ok := fun _ => True) (okp := fun _ => True) ?hr ?hp (fun _ hk => hk) trivial (Below.refl _ _) (Nat.le_refl _) (by simp) ?_; (case hd => rfl); (case hg => rfl); (case hr => first | (go_simp; done) | (go_simp; rfl)); (case hp => exact (Reps.one (show Kd.M (Kd.int .i64) _ _ _ 384 [.int .i64 384] from rfl) (Reps.one (show Kd.M (Kd.int .i64) _ _ _ 768 [.int .i64 768] from rfl) (Reps.one (show Kd.M (Kd.int .i64) _ _ _ 772 [.int .i64 772] from rfl) (Reps.one (show Kd.M (Kd.int .i64) _ _ _ 773 [.int .i64 773] from rfl) (Reps.one (show Kd.M (Kd.int .i64) _ _ _ 832 [.int .i64 832] from rfl) (Reps.one (show Kd.M (Kd.int .i64) _ _ _ 833 [.int .i64 833] from rfl) (Reps.one (show Kd.M (Kd.int .i64) _ _ _ 834 [.int .i64 834] from rfl) (Reps.one (show Kd.M (Kd.int .i64) _ _ _ 835 [.int .i64 835] from rfl) (Reps.one (show Kd.M (Kd.int .i64) _ _ _ 836 [.int .i64 836] from rfl) (Reps.none _ _))))))))))); intro v208 w10 ho11 hb hg_ hnew_; clear hg_ hnew_; (first | rw [← Ny207.out] at ho11 | (simp only [Int.reduceToNat] at ho11; rw [← Ny207.out] at ho11)); have n0_ := Aside0.mk (Kd.R_lower ho11 (below_size (by repeat (first | (with_reducible first | exact HB.out | apply below_alloc | apply pw_below_drewN | apply below_drew1 | refine below_set ?_ GE206.out) | exact HB.out)))); have n1_ := Aside0.mk (blk_below (g := gb206) (o := .cells #[.bool t195, .int .u32 t196, .int .u32 t197, .int .u32 t198, .int .u32 t199, .int .u32 t200, .int .u32 t201, .int .u32 t202, .int .u32 t203, .int .u32 t204, .int .u32 t205] 38 (0, 0)) (by (with_reducible repeat (first | refine blk_drewN ?_ _ | refine blk_drew ?_ | refine blk_alloc ?_ _)); refine blk_put (cs := #[.bool t195, .int .u32 t196, .int .u32 t197, .int .u32 t198, .int .u32 t199, .int .u32 t200, .int .u32 t201, .int .u32 t202, .int .u32 t203, .int .u32 t204, .int .u32 0]) ?_ 10 _ rfl; (with_reducible repeat (first | refine blk_drewN ?_ _ | refine blk_drew ?_ | refine blk_alloc ?_ _)); refine blk_put (cs := #[.bool t195, .int .u32 t196, .int .u32 t197, .int .u32 t198, .int .u32 t199, .int .u32 t200, .int .u32 t201, .int .u32 t202, .int .u32 t203, .int .u32 0, .int .u32 0]) ?_ 9 _ rfl; (with_reducible repeat (first | refine blk_drewN ?_ _ | refine blk_drew ?_ | refine blk_alloc ?_ _)); refine blk_put (cs := #[.bool t195, .int .u32 t196, .int .u32 t197, .int .u32 t198, .int .u32 t199, .int .u32 t200, .int .u32 t201, .int .u32 t202, .int .u32 0, .int .u32 0, .int .u32 0]) ?_ 8 _ rfl; (with_reducible repeat (first | refine blk_drewN ?_ _ | refine blk_drew ?_ | refine blk_alloc ?_ _)); refine blk_put (cs := #[.bool t195, .int .u32 t196, .int .u32 t197, .int .u32 t198, .int .u32 t199, .int .u32 t200, .int .u32 t201, .int .u32 0, .int .u32 0, .int .u32 0, .int .u32 0]) ?_ 7 _ rfl; (with_reducible repeat (first | refine blk_drewN ?_ _ | refine blk_drew ?_ | refine blk_alloc ?_ _)); refine blk_put (cs := #[.bool t195, .int .u32 t196, .int .u32 t197, .int .u32 t198, .int .u32 t199, .int .u32 t200, .int .u32 0, .int .u32 0, .int .u32 0, .int .u32 0, .int .u32 0]) ?_ 6 _ rfl; (with_reducible repeat (first | refine blk_drewN ?_ _ | refine blk_drew ?_ | refine blk_alloc ?_ _)); refine blk_put (cs := #[.bool t195, .int .u32 t196, .int .u32 t197, .int .u32 t198, .int .u32 t199, .int .u32 0, .int .u32 0, .int .u32 0, .int .u32 0, .int .u32 0, .int .u32 0]) ?_ 5 _ rfl; (with_reducible repeat (first | refine blk_drewN ?_ _ | refine blk_drew ?_ | refine blk_alloc ?_ _)); refine blk_put (cs := #[.bool t195, .int .u32 t196, .int .u32 t197, .int .u32 t198, .int .u32 0, .int .u32 0, .int .u32 0, .int .u32 0, .int .u32 0, .int .u32 0, .int .u32 0]) ?_ 4 _ rfl; (with_reducible repeat (first | refine blk_drewN ?_ _ | refine blk_drew ?_ | refine blk_alloc ?_ _)); refine blk_put (cs := #[.bool t195, .int .u32 t196, .int .u32 t197, .int .u32 0, .int .u32 0, .int .u32 0, .int .u32 0, .int .u32 0, .int .u32 0, .int .u32 0, .int .u32 0]) ?_ 3 _ rfl; (with_reducible repeat (first | refine blk_drewN ?_ _ | refine blk_drew ?_ | refine blk_alloc ?_ _)); refine blk_put (cs := #[.bool t195, .int .u32 t196, .int .u32 0, .int .u32 0, .int .u32 0, .int .u32 0, .int .u32 0, .int .u32 0, .int .u32 0, .int .u32 0, .int .u32 0]) ?_ 2 _ rfl; (with_reducible repeat (first | refine blk_drewN ?_ _ | refine blk_drew ?_ | refine blk_alloc ?_ _)); refine blk_put (cs := #[.bool t195, .int .u32 0, .int .u32 0, .int .u32 0, .int .u32 0, .int .u32 0, .int .u32 0, .int .u32 0, .int .u32 0, .int .u32 0, .int .u32 0]) ?_ 1 _ rfl; (with_reducible repeat (first | refine blk_drewN ?_ _ | refine blk_drew ?_ | refine blk_alloc ?_ _)); refine blk_put (cs := #[.bool false, .int .u32 0, .int .u32 0, .int .u32 0, .int .u32 0, .int .u32 0, .int .u32 0, .int .u32 0, .int .u32 0, .int .u32 0, .int .u32 0]) ?_ 0 _ rfl; (with_reducible repeat (first | refine blk_drewN ?_ _ | refine blk_drew ?_ | refine blk_alloc ?_ _)); exact BK206.out) hb); have n2_ := Aside0.mk (below_step (by repeat (first | (with_reducible first | exact HB.out | apply below_alloc | apply pw_below_drewN | apply below_drew1 | refine below_set ?_ GE206.out) | exact HB.out)) hb); clear BK206; clear HB; have HO209 := n0_; have BK206 := n1_; have HB := n2_; clear n0_ n1_ n2_; clear hb ho11) | ((with_reducible refine gate_dst (N := 20) rfl ?_); (try (refine gate_guard (by rfl) ?_; dsimp only)); refine Kd.R_lit (Kd.int .u32) _ 22 ?hg (N := 20) ?hd (xs := ([2151677951, 136, 8, 4294967292, 4294967295, 4294967292, 4294967295, 4294967295, 0] : List Int)) (inner := [.int .u32 2151677951, .int .u32 136, .int .u32 8, .int .u32 4294967292, .int .u32 4294967295, .int .u32 4294967292, .int .u32 4294967295, .int .u32 4294967295, .int .u32 0]) (ok := fun _ => True) (okp := fun _ => True) ?hr ?hp (fun _ hk => hk) trivial (Below.refl _ _) (Nat.le_refl _) (by simp) ?_; (case hd => rfl); (case hg => rfl); (case hr => first | (go_simp; done) | (go_simp; rfl)); (case hp => exact (Reps.one (show Kd.M (Kd.int .u32) _ _ _ 2151677951 [.int .u32 2151677951] from rfl) (Reps.one (show Kd.M (Kd.int .u32) _ _ _ 136 [.int .u32 136] from rfl) (Reps.one (show Kd.M (Kd.int .u32) _ _ _ 8 [.int .u32 8] from rfl) (Reps.one (show Kd.M (Kd.int .u32) _ _ _ 4294967292 [.int .u32 4294967292] from rfl) (Reps.one (show Kd.M (Kd.int .u32) _ _ _ 4294967295 [.int .u32 4294967295] from rfl) (Reps.one (show Kd.M (Kd.int .u32) _ _ _ 4294967292 [.int .u32 4294967292] from rfl) (Reps.one (show Kd.M (Kd.int .u32) _ _ _ 4294967295 [.int .u32 4294967295] from rfl) (Reps.one (show Kd.M (Kd.int .u32) _ _ _ 4294967295 [.int .u32 4294967295] from rfl) (Reps.one (show Kd.M (Kd.int .u32) _ _ _ 0 [.int .u32 0] from rfl) (Reps.none _ _))))))))))); intro v211 w12 ho13 hb hg_ hnew_; clear hg_ hnew_; (first | rw [← Ny210.out] at ho13 | (simp only [Int.reduceToNat] at ho13; rw [← Ny210.out] at ho13)); have n0_ := Aside0.mk (Kd.R_below (by (with_reducible repeat (first | apply Kd.R_alloc | apply Kd.R_drewN | apply Kd.R_drew)); exact HO209.out) hb); have n1_ := Aside0.mk (Kd.R_lower ho13 (below_size (by repeat (first | (with_reducible first | exact HB.out | apply below_alloc | apply pw_below_drewN | apply below_drew1 | refine below_set ?_ GE206.out) | exact HB.out)))); have n2_ := Aside0.mk (blk_below (g := gb206) (o := .cells #[.bool t195, .int .u32 t196, .int .u32 t197, .int .u32 t198, .int .u32 t199, .int .u32 t200, .int .u32 t201, .int .u32 t202, .int .u32 t203, .int .u32 t204, .int .u32 t205] 38 (0, 0)) (by (with_reducible repeat (first | refine blk_drewN ?_ _ | refine blk_drew ?_ | refine blk_alloc ?_ _)); exact BK206.out) hb); have n3_ := Aside0.mk (below_step (by repeat (first | (with_reducible first | exact HB.out | apply below_alloc | apply pw_below_drewN | apply below_drew1 | refine below_set ?_ GE206.out) | exact HB.out)) hb); clear HO209; clear BK206; clear HB; have HO209 := n0_; have HO212 := n1_; have BK206 := n2_; have HB := n3_; clear n0_ n1_ n2_ n3_; clear hb ho13))
    go_loopg [9] k (fun kq v9 w' => ∃ (x9_1 : Int) (x207000_1 : Bool) (x207001_1 : Int) (x207002_1 : Int) (x207003_1 : Int) (x207004_1 : Int) (x207005_1 : Int) (x207006_1 : Int) (x207007_1 : Int) (x207008_1 : Int) (x207009_1 : Int) (x207010_1 : Int), v9 = .int .i64 x9_1 ∧ Aside0 (corrallaw6_CsrMasks.l0 kq a0 a1 true y207 y210 x9_1 x207000_1 x207001_1 x207002_1 x207003_1 x207004_1 x207005_1 x207006_1 x207007_1 x207008_1 x207009_1 x207010_1 = some r) ∧ Aside0 (kq ≤ k) ∧ Aside0 (Kd.R (Kd.int .i64) 3 w' w.heap.size (fun _ => True) v208 y207) ∧ Aside0 (Kd.R (Kd.int .u32) 22 w' w.heap.size (fun _ => True) v211 y210) ∧ Aside0 (w'.heap[gb206]? = some (.cells #[.bool x207000_1, .int .u32 x207001_1, .int .u32 x207002_1, .int .u32 x207003_1, .int .u32 x207004_1, .int .u32 x207005_1, .int .u32 x207006_1, .int .u32 x207007_1, .int .u32 x207008_1, .int .u32 x207009_1, .int .u32 x207010_1] 38 (0, 0))) ∧ Aside0 (Below w.heap.size w w'))
    case atStart => exact ⟨(0), (t195), (t196), (t197), (t198), (t199), (t200), (t201), (t202), (t203), (t204), (t205), (by first | rfl | (simp; done) | (simp [*]; done)), H', ⟨Nat.le_refl _⟩, ⟨by (with_reducible repeat (first | apply Kd.R_alloc | apply Kd.R_drewN | apply Kd.R_drew)); exact HO209.out⟩, ⟨by (with_reducible repeat (first | apply Kd.R_alloc | apply Kd.R_drewN | apply Kd.R_drew)); exact HO212.out⟩, ⟨by (with_reducible repeat (first | refine blk_drewN ?_ _ | refine blk_drew ?_ | refine blk_alloc ?_ _)); exact BK206.out⟩, ⟨by repeat (first | (with_reducible first | exact HB.out | apply below_alloc | apply pw_below_drewN | apply below_drew1 | refine below_set ?_ GE206.out) | exact HB.out)⟩⟩
    case round =>
      clear H'
      try clear c2
      try clear p2
      try clear c4
      try clear c7
      try clear hcz9_0
      try clear hcz9_1
      try clear hcz9_10
      try clear hcz9_2
      try clear hcz9_3
      try clear hcz9_4
      try clear hcz9_5
      try clear hcz9_6
      try clear hcz9_7
      try clear hcz9_8
      try clear hcz9_9
      try clear hfz9_0
      try clear hfz9_1
      try clear hfz9_10
      try clear hfz9_2
      try clear hfz9_3
      try clear hfz9_4
      try clear hfz9_5
      try clear hfz9_6
      try clear hfz9_7
      try clear hfz9_8
      try clear hfz9_9
      obtain ⟨x9_1, x207000_1, x207001_1, x207002_1, x207003_1, x207004_1, x207005_1, x207006_1, x207007_1, x207008_1, x207009_1, x207010_1, rfl, HA, HK1, HO_7, HO_8, BK206, HB⟩ := hrel
      cases gk with
      | zero => exact absurd HA.out (by simp [corrallaw6_CsrMasks.l0])
      | succ k1 =>
        have H := HA.out
        clear HA
        simp only [corrallaw6_CsrMasks.l0] at H
        by_cases c14 : x9_1 < (y207.length : Int)
        · rw [if_pos c14] at H
          have c14b0 : decide (x9_1 < (y207.length : Int)) = true := decide_eq_true c14
          clear c14
          have HC15 := Aside0.mk H
          clear H
          obtain ⟨Ao16, co16, eo16⟩ := Kd.R_slice HO_7.out
          subst eo16
          go_upto_region 10 with (fail)
          go_cut [42] (fun v42 wc => ∃ (kq : Nat) (x42_14 : Bool) (x207000_14 : Bool) (x207001_14 : Int) (x207002_14 : Int) (x207003_14 : Int) (x207004_14 : Int) (x207005_14 : Int) (x207006_14 : Int) (x207007_14 : Int) (x207008_14 : Int) (x207009_14 : Int) (x207010_14 : Int), v42 = .bool x42_14 ∧ Aside0 (corrallaw6_CsrMasks.j1 kq a0 a1 true y207 y210 x9_1 x42_14 x207000_14 x207001_14 x207002_14 x207003_14 x207004_14 x207005_14 x207006_14 x207007_14 x207008_14 x207009_14 x207010_14 = some r) ∧ Aside0 (kq ≤ k1) ∧ Aside0 (Kd.R (Kd.int .i64) 3 wc w.heap.size (fun _ => True) (.slice Ao16 y207.length co16) y207) ∧ Aside0 (Kd.R (Kd.int .u32) 22 wc w.heap.size (fun _ => True) v211 y210) ∧ Aside0 (wc.heap[gb206]? = some (.cells #[.bool x207000_14, .int .u32 x207001_14, .int .u32 x207002_14, .int .u32 x207003_14, .int .u32 x207004_14, .int .u32 x207005_14, .int .u32 x207006_14, .int .u32 x207007_14, .int .u32 x207008_14, .int .u32 x207009_14, .int .u32 x207010_14] 38 (0, 0))) ∧ Aside0 (Below w.heap.size w wc))
          case first =>
            have H := HC15.out
            clear HC15
            by_cases c17 : 0 ≤ x9_1
            · rw [if_pos c17] at H
              have c17b0 : decide (0 ≤ x9_1) = true := decide_eq_true c17
              clear c17
              (first | rw [c17b0] | (simp only [i64_w, i32_w]; rw [c17b0]) | skip)
              replace H := Option.bind_eq_some_iff.mp H
              obtain ⟨⟨t253, t254, t255, t256, t257, t258, t259, t260, t261, t262, t263, t264⟩, A180, H⟩ := H
              replace H : (if t253 = true then ((csr_File_Set.f t254 t255 t256 t257 t258 t259 t260 t261 t262 t263 t264 (rd y207 x9_1) a0).bind fun bt266 => (corrallaw6_CsrMasks.j1 k1 a0 a1 true y207 y210 x9_1 (!bt266.1) bt266.2.1 bt266.2.2.1 bt266.2.2.2.1 bt266.2.2.2.2.1 bt266.2.2.2.2.2.1 bt266.2.2.2.2.2.2.1 bt266.2.2.2.2.2.2.2.1 bt266.2.2.2.2.2.2.2.2.1 bt266.2.2.2.2.2.2.2.2.2.1 bt266.2.2.2.2.2.2.2.2.2.2.1 bt266.2.2.2.2.2.2.2.2.2.2.2)) else (corrallaw6_CsrMasks.j1 k1 a0 a1 true y207 y210 x9_1 true t254 t255 t256 t257 t258 t259 t260 t261 t262 t263 t264)) = some r := H
              have A18 := Aside0.mk A180
              clear A180
              by_cases c19 : t253 = true
              · subst c19
                have H1 : ((csr_File_Set.f t254 t255 t256 t257 t258 t259 t260 t261 t262 t263 t264 (rd y207 x9_1) a0).bind fun bt266 => (corrallaw6_CsrMasks.j1 k1 a0 a1 true y207 y210 x9_1 (!bt266.1) bt266.2.1 bt266.2.2.1 bt266.2.2.2.1 bt266.2.2.2.2.1 bt266.2.2.2.2.2.1 bt266.2.2.2.2.2.2.1 bt266.2.2.2.2.2.2.2.1 bt266.2.2.2.2.2.2.2.2.1 bt266.2.2.2.2.2.2.2.2.2.1 bt266.2.2.2.2.2.2.2.2.2.2.1 bt266.2.2.2.2.2.2.2.2.2.2.2)) = some r := by rw [if_pos rfl] at H; exact H
                clear H
                have H := H1
                clear H1
                replace H := Option.bind_eq_some_iff.mp H
                obtain ⟨⟨t266, t267, t268, t269, t270, t271, t272, t273, t274, t275, t276, t277⟩, A200, H⟩ := H
                replace H : (corrallaw6_CsrMasks.j1 k1 a0 a1 true y207 y210 x9_1 (!t266) t267 t268 t269 t270 t271 t272 t273 t274 t275 t276 t277) = some r := H
                have A20 := Aside0.mk A200
                clear A200
                have H' := Aside0.mk H
                clear H
                have p252 : 0 ≤ (x9_1 : Int) := of_decide_eq_true (by first | (with_reducible assumption) | assumption)
                have q252 : x9_1 < (y207.length : Int) := of_decide_eq_true (by first | (with_reducible assumption) | assumption)
                obtain ⟨ad252, e252, hx252_0⟩ := Kd.at_int (Kd.R_reads' HO_7.out).2.2 x9_1 p252 q252
                cases e252
                replace p252 := eq_true p252
                replace q252 := eq_true q252
                go_wp2_with (first | ((with_reducible refine gate_callee (f := 22) rfl ?_); refine goesL_ (some 32) rfl rfl Try.func22 (by kernel_rfl) rfl #[.pointer (some ⟨gb206, 0, none⟩), .int .i64 (rd y207 x9_1), .int .u32 a1] rfl (by (try simp only [List.map_toArray, List.map_cons, List.map_nil]); first | done | rfl | (simp only [List.length_drop, List.length_take]; rfl)) ?_; (with_reducible refine (csr_File_Set.calls gb206 x207000_1 x207001_1 x207002_1 x207003_1 x207004_1 x207005_1 x207006_1 x207007_1 x207008_1 x207009_1 x207010_1 (rd y207 x9_1) a1 true t254 t255 t256 t257 t258 t259 t260 t261 t262 t263 t264 w _ ?side1 ?side2 A18.out).mono ?_); (case side1 => exact And.intro (by (with_reducible repeat (first | refine blk_drewN ?_ _ | refine blk_drew ?_ | refine blk_alloc ?_ _)); exact BK206.out) GW206.out); (case side2 => repeat (first | (with_reducible first | exact HB.out | apply below_alloc | apply pw_below_drewN | apply below_drew1 | refine below_set ?_ GE206.out) | exact HB.out)); rintro e w21 ⟨rfl, hi, hb, hk⟩; refine ⟨_, rfl, ?_⟩; have n0_ := Aside0.mk (Kd.R_mono (Kd.R_keep (IsS38.apart (show IsS38 w _ gb206 x207000_1 x207001_1 x207002_1 x207003_1 x207004_1 x207005_1 x207006_1 x207007_1 x207008_1 x207009_1 x207010_1 from by exact And.intro (by (with_reducible repeat (first | refine blk_drewN ?_ _ | refine blk_drew ?_ | refine blk_alloc ?_ _)); exact BK206.out) GW206.out) (by (with_reducible repeat (first | apply Kd.R_alloc | apply Kd.R_drewN | apply Kd.R_drew)); exact HO_7.out) (by decide)) hk (fun _ h => h.2)) (fun _ h => h.1)); have n1_ := Aside0.mk (Kd.R_mono (Kd.R_keep (IsS38.apart (show IsS38 w _ gb206 x207000_1 x207001_1 x207002_1 x207003_1 x207004_1 x207005_1 x207006_1 x207007_1 x207008_1 x207009_1 x207010_1 from by exact And.intro (by (with_reducible repeat (first | refine blk_drewN ?_ _ | refine blk_drew ?_ | refine blk_alloc ?_ _)); exact BK206.out) GW206.out) (by (with_reducible repeat (first | apply Kd.R_alloc | apply Kd.R_drewN | apply Kd.R_drew)); exact HO_8.out) (by decide)) hk (fun _ h => h.2)) (fun _ h => h.1)); have n2_ := Aside0.mk (hb); have n3_ := Aside0.mk ((And.left hi)); clear HO_7; clear HO_8; clear HB; clear BK206; have HO_7 := n0_; have HO_8 := n1_; have HB := n2_; have BK206 := n3_; clear n0_ n1_ n2_ n3_; (try clear hb); (try clear hb2); (try clear hk); (try clear hi); have p265 : 0 ≤ (x9_1 : Int) := of_decide_eq_true (by first | (with_reducible assumption) | assumption); have q265 : x9_1 < (y207.length : Int) := of_decide_eq_true (by first | (with_reducible assumption) | assumption); obtain ⟨ad265, e265, hx265_0⟩ := Kd.at_int (Kd.R_reads' HO_7.out).2.2 x9_1 p265 q265; obtain rfl : ad252 = ad265 := (by injection e265); replace p265 := eq_true p265; replace q265 := eq_true q265) | (go_at_call 22; (with_reducible refine (csr_File_Set.calls gb206 t254 t255 t256 t257 t258 t259 t260 t261 t262 t263 t264 (rd y207 x9_1) a0 t266 t267 t268 t269 t270 t271 t272 t273 t274 t275 t276 t277 w _ ?side1 ?side2 A20.out).mono ?_); (case side1 => exact And.intro (by (with_reducible repeat (first | refine blk_drewN ?_ _ | refine blk_drew ?_ | refine blk_alloc ?_ _)); exact BK206.out) GW206.out); (case side2 => repeat (first | (with_reducible first | exact HB.out | apply below_alloc | apply pw_below_drewN | apply below_drew1 | refine below_set ?_ GE206.out) | exact HB.out)); rintro e w22 ⟨rfl, hi, hb, hk⟩; have n0_ := Aside0.mk (Kd.R_mono (Kd.R_keep (IsS38.apart (show IsS38 w _ gb206 t254 t255 t256 t257 t258 t259 t260 t261 t262 t263 t264 from by exact And.intro (by (with_reducible repeat (first | refine blk_drewN ?_ _ | refine blk_drew ?_ | refine blk_alloc ?_ _)); exact BK206.out) GW206.out) (by (with_reducible repeat (first | apply Kd.R_alloc | apply Kd.R_drewN | apply Kd.R_drew)); exact HO_7.out) (by decide)) hk (fun _ h => h.2)) (fun _ h => h.1)); have n1_ := Aside0.mk (Kd.R_mono (Kd.R_keep (IsS38.apart (show IsS38 w _ gb206 t254 t255 t256 t257 t258 t259 t260 t261 t262 t263 t264 from by exact And.intro (by (with_reducible repeat (first | refine blk_drewN ?_ _ | refine blk_drew ?_ | refine blk_alloc ?_ _)); exact BK206.out) GW206.out) (by (with_reducible repeat (first | apply Kd.R_alloc | apply Kd.R_drewN | apply Kd.R_drew)); exact HO_8.out) (by decide)) hk (fun _ h => h.2)) (fun _ h => h.1)); have n2_ := Aside0.mk (hb); have n3_ := Aside0.mk ((And.left hi)); clear HO_7; clear HO_8; clear HB; clear BK206; have HO_7 := n0_; have HO_8 := n1_; have HB := n2_; have BK206 := n3_; clear n0_ n1_ n2_ n3_; (try clear hb); (try clear hb2); (try clear hk); (try clear hi)))
                go_meet
                case rel => exact ⟨_, (!t266), (t267), (t268), (t269), (t270), (t271), (t272), (t273), (t274), (t275), (t276), (t277), (by first | rfl | (simp; done) | (simp [*]; done)), H', ⟨by have := HK1.out; first | omega | exact Nat.le_refl _⟩, ⟨by (with_reducible repeat (first | apply Kd.R_alloc | apply Kd.R_drewN | apply Kd.R_drew)); exact HO_7.out⟩, ⟨by (with_reducible repeat (first | apply Kd.R_alloc | apply Kd.R_drewN | apply Kd.R_drew)); exact HO_8.out⟩, ⟨by (with_reducible repeat (first | refine blk_drewN ?_ _ | refine blk_drew ?_ | refine blk_alloc ?_ _)); exact BK206.out⟩, ⟨by repeat (first | (with_reducible first | exact HB.out | apply below_alloc | apply pw_below_drewN | apply below_drew1 | refine below_set ?_ GE206.out) | exact HB.out)⟩⟩
              · replace c19 := Bool.eq_false_iff.mpr c19
                subst c19
                have H1 : (corrallaw6_CsrMasks.j1 k1 a0 a1 true y207 y210 x9_1 true t254 t255 t256 t257 t258 t259 t260 t261 t262 t263 t264) = some r := by rw [if_neg (show ¬ (false = true) by decide)] at H; exact H
                clear H
                have H := H1
                clear H1
                have H' := Aside0.mk H
                clear H
                have p252 : 0 ≤ (x9_1 : Int) := of_decide_eq_true (by first | (with_reducible assumption) | assumption)
                have q252 : x9_1 < (y207.length : Int) := of_decide_eq_true (by first | (with_reducible assumption) | assumption)
                obtain ⟨ad252, e252, hx252_0⟩ := Kd.at_int (Kd.R_reads' HO_7.out).2.2 x9_1 p252 q252
                cases e252
                replace p252 := eq_true p252
                replace q252 := eq_true q252
                go_wp2_with (first | ((with_reducible refine gate_callee (f := 22) rfl ?_); refine goesL_ (some 32) rfl rfl Try.func22 (by kernel_rfl) rfl #[.pointer (some ⟨gb206, 0, none⟩), .int .i64 (rd y207 x9_1), .int .u32 a1] rfl (by (try simp only [List.map_toArray, List.map_cons, List.map_nil]); first | done | rfl | (simp only [List.length_drop, List.length_take]; rfl)) ?_; (with_reducible refine (csr_File_Set.calls gb206 x207000_1 x207001_1 x207002_1 x207003_1 x207004_1 x207005_1 x207006_1 x207007_1 x207008_1 x207009_1 x207010_1 (rd y207 x9_1) a1 false t254 t255 t256 t257 t258 t259 t260 t261 t262 t263 t264 w _ ?side1 ?side2 A18.out).mono ?_); (case side1 => exact And.intro (by (with_reducible repeat (first | refine blk_drewN ?_ _ | refine blk_drew ?_ | refine blk_alloc ?_ _)); exact BK206.out) GW206.out); (case side2 => repeat (first | (with_reducible first | exact HB.out | apply below_alloc | apply pw_below_drewN | apply below_drew1 | refine below_set ?_ GE206.out) | exact HB.out)); rintro e w23 ⟨rfl, hi, hb, hk⟩; refine ⟨_, rfl, ?_⟩; have n0_ := Aside0.mk (Kd.R_mono (Kd.R_keep (IsS38.apart (show IsS38 w _ gb206 x207000_1 x207001_1 x207002_1 x207003_1 x207004_1 x207005_1 x207006_1 x207007_1 x207008_1 x207009_1 x207010_1 from by exact And.intro (by (with_reducible repeat (first | refine blk_drewN ?_ _ | refine blk_drew ?_ | refine blk_alloc ?_ _)); exact BK206.out) GW206.out) (by (with_reducible repeat (first | apply Kd.R_alloc | apply Kd.R_drewN | apply Kd.R_drew)); exact HO_7.out) (by decide)) hk (fun _ h => h.2)) (fun _ h => h.1)); have n1_ := Aside0.mk (Kd.R_mono (Kd.R_keep (IsS38.apart (show IsS38 w _ gb206 x207000_1 x207001_1 x207002_1 x207003_1 x207004_1 x207005_1 x207006_1 x207007_1 x207008_1 x207009_1 x207010_1 from by exact And.intro (by (with_reducible repeat (first | refine blk_drewN ?_ _ | refine blk_drew ?_ | refine blk_alloc ?_ _)); exact BK206.out) GW206.out) (by (with_reducible repeat (first | apply Kd.R_alloc | apply Kd.R_drewN | apply Kd.R_drew)); exact HO_8.out) (by decide)) hk (fun _ h => h.2)) (fun _ h => h.1)); have n2_ := Aside0.mk (hb); have n3_ := Aside0.mk ((And.left hi)); clear HO_7; clear HO_8; clear HB; clear BK206; have HO_7 := n0_; have HO_8 := n1_; have HB := n2_; have BK206 := n3_; clear n0_ n1_ n2_ n3_; (try clear hb); (try clear hb2); (try clear hk); (try clear hi)))
                go_meet
                case rel => exact ⟨_, (true), (t254), (t255), (t256), (t257), (t258), (t259), (t260), (t261), (t262), (t263), (t264), (by first | rfl | (simp; done) | (simp [*]; done)), H', ⟨by have := HK1.out; first | omega | exact Nat.le_refl _⟩, ⟨by (with_reducible repeat (first | apply Kd.R_alloc | apply Kd.R_drewN | apply Kd.R_drew)); exact HO_7.out⟩, ⟨by (with_reducible repeat (first | apply Kd.R_alloc | apply Kd.R_drewN | apply Kd.R_drew)); exact HO_8.out⟩, ⟨by (with_reducible repeat (first | refine blk_drewN ?_ _ | refine blk_drew ?_ | refine blk_alloc ?_ _)); exact BK206.out⟩, ⟨by repeat (first | (with_reducible first | exact HB.out | apply below_alloc | apply pw_below_drewN | apply below_drew1 | refine below_set ?_ GE206.out) | exact HB.out)⟩⟩
            · rw [if_neg c17] at H
              exact absurd H (by simp)
          case rest =>
            clear HC15
            try clear c1
            try clear c2
            try clear p2
            try clear q2
            try clear hx2
            try clear c4
            try clear c7
            try clear c14
            try clear c14b0
            try clear c17
            try clear c17b0
            try clear c19
            try clear c20
            try clear c21
            try clear c22
            try clear hcz9_0
            try clear hcz9_1
            try clear hcz9_10
            try clear hcz9_2
            try clear hcz9_3
            try clear hcz9_4
            try clear hcz9_5
            try clear hcz9_6
            try clear hcz9_7
            try clear hcz9_8
            try clear hcz9_9
            try clear hfz9_0
            try clear hfz9_1
            try clear hfz9_10
            try clear hfz9_2
            try clear hfz9_3
            try clear hfz9_4
            try clear hfz9_5
            try clear hfz9_6
            try clear hfz9_7
            try clear hfz9_8
            try clear hfz9_9
            try clear hx252_0
            try clear hx265_0
            try clear p2
            try clear p252
            try clear p265
            try clear q252
            try clear q265
            obtain ⟨kq, x42_14, x207000_14, x207001_14, x207002_14, x207003_14, x207004_14, x207005_14, x207006_14, x207007_14, x207008_14, x207009_14, x207010_14, rfl, HA, HJ14, HO_7, HO_8, BK206, HB⟩ := hcut
            cases kq with
            | zero => exact absurd HA.out (by simp [corrallaw6_CsrMasks.j1])
            | succ kj14 =>
              have H := HA.out
              clear HA
              simp only [corrallaw6_CsrMasks.j1] at H
              by_cases c24 : x42_14 = true
              · subst c24
                have H1 : (some false) = some r := by rw [if_pos rfl] at H; exact H
                clear H
                have H := H1
                clear H1
                exact absurd (Option.some.inj H) (by rw [HRT.out]; decide)
              · replace c24 := Bool.eq_false_iff.mpr c24
                subst c24
                have H1 : (if 0 ≤ x9_1 then (if x9_1 < (y207.length : Int) then ((csr_File_Get.f x207000_14 x207001_14 x207002_14 x207003_14 x207004_14 x207005_14 x207006_14 x207007_14 x207008_14 x207009_14 x207010_14 (rd y207 x9_1)).bind fun bt279 => (if x9_1 < (y210.length : Int) then (if (rd y207 x9_1) = 768 then (corrallaw6_CsrMasks.j2 kj14 a0 a1 true y207 y210 x9_1 bt279.1 bt279.2.1 (Go.bits .and .u32 a0 (rd y210 x9_1)) ((Go.bits .and .u32 a0 6144) == 6144) bt279.2.2.1 bt279.2.2.2.1 bt279.2.2.2.2.1 bt279.2.2.2.2.2.1 bt279.2.2.2.2.2.2.1 bt279.2.2.2.2.2.2.2.1 bt279.2.2.2.2.2.2.2.2.1 bt279.2.2.2.2.2.2.2.2.2.1 bt279.2.2.2.2.2.2.2.2.2.2.1 bt279.2.2.2.2.2.2.2.2.2.2.2.1 bt279.2.2.2.2.2.2.2.2.2.2.2.2) else (corrallaw6_CsrMasks.j2 kj14 a0 a1 true y207 y210 x9_1 bt279.1 bt279.2.1 (Go.bits .and .u32 a0 (rd y210 x9_1)) false bt279.2.2.1 bt279.2.2.2.1 bt279.2.2.2.2.1 bt279.2.2.2.2.2.1 bt279.2.2.2.2.2.2.1 bt279.2.2.2.2.2.2.2.1 bt279.2.2.2.2.2.2.2.2.1 bt279.2.2.2.2.2.2.2.2.2.1 bt279.2.2.2.2.2.2.2.2.2.2.1 bt279.2.2.2.2.2.2.2.2.2.2.2.1 bt279.2.2.2.2.2.2.2.2.2.2.2.2)) else (none))) else (none)) else (none)) = some r := by rw [if_neg (show ¬ (false = true) by decide)] at H; exact H
                clear H
                have H := H1
                clear H1
                by_cases c25 : 0 ≤ x9_1
                · rw [if_pos c25] at H
                  have c25b0 : decide (0 ≤ x9_1) = true := decide_eq_true c25
                  clear c25
                  by_cases c26 : x9_1 < (y207.length : Int)
                  · rw [if_pos c26] at H
                    have c26b0 : decide (x9_1 < (y207.length : Int)) = true := decide_eq_true c26
                    clear c26
                    replace H := Option.bind_eq_some_iff.mp H
                    obtain ⟨⟨t279, t280, t281, t282, t283, t284, t285, t286, t287, t288, t289, t290, t291⟩, A270, H⟩ := H
                    replace H : (if x9_1 < (y210.length : Int) then (if (rd y207 x9_1) = 768 then (corrallaw6_CsrMasks.j2 kj14 a0 a1 true y207 y210 x9_1 t279 t280 (Go.bits .and .u32 a0 (rd y210 x9_1)) ((Go.bits .and .u32 a0 6144) == 6144) t281 t282 t283 t284 t285 t286 t287 t288 t289 t290 t291) else (corrallaw6_CsrMasks.j2 kj14 a0 a1 true y207 y210 x9_1 t279 t280 (Go.bits .and .u32 a0 (rd y210 x9_1)) false t281 t282 t283 t284 t285 t286 t287 t288 t289 t290 t291)) else (none)) = some r := H
                    have A27 := Aside0.mk A270
                    clear A270
                    by_cases c28 : x9_1 < (y210.length : Int)
                    · rw [if_pos c28] at H
                      have c28b0 : decide (x9_1 < (y210.length : Int)) = true := decide_eq_true c28
                      clear c28
                      have HC29 := Aside0.mk H
                      clear H
                      have p278 : 0 ≤ (x9_1 : Int) := of_decide_eq_true (by first | (with_reducible assumption) | assumption)
                      have q278 : x9_1 < (y207.length : Int) := of_decide_eq_true (by first | (with_reducible assumption) | assumption)
                      obtain ⟨ad278, e278, hx278_0⟩ := Kd.at_int (Kd.R_reads' HO_7.out).2.2 x9_1 p278 q278
                      cases e278
                      replace p278 := eq_true p278
                      replace q278 := eq_true q278
                      go_upto_region 14 with (first | ((with_reducible refine gate_callee (f := 23) rfl ?_); refine goesL_ (some 48) rfl rfl Try.func23 (by kernel_rfl) rfl #[.pointer (some ⟨gb206, 0, none⟩), .int .i64 (rd y207 x9_1)] rfl (by (try simp only [List.map_toArray, List.map_cons, List.map_nil]); first | done | rfl | (simp only [List.length_drop, List.length_take]; rfl)) ?_; (with_reducible refine (csr_File_Get.calls gb206 x207000_14 x207001_14 x207002_14 x207003_14 x207004_14 x207005_14 x207006_14 x207007_14 x207008_14 x207009_14 x207010_14 (rd y207 x9_1) t279 t280 t281 t282 t283 t284 t285 t286 t287 t288 t289 t290 t291 w _ ?side1 ?side2 A27.out).mono ?_); (case side1 => exact And.intro (by (with_reducible repeat (first | refine blk_drewN ?_ _ | refine blk_drew ?_ | refine blk_alloc ?_ _)); exact BK206.out) GW206.out); (case side2 => repeat (first | (with_reducible first | exact HB.out | apply below_alloc | apply pw_below_drewN | apply below_drew1 | refine below_set ?_ GE206.out) | exact HB.out)); rintro e w30 ⟨rfl, hi, hb, hk⟩; refine ⟨_, rfl, ?_⟩; have n0_ := Aside0.mk (Kd.R_mono (Kd.R_keep (IsS38.apart (show IsS38 w _ gb206 x207000_14 x207001_14 x207002_14 x207003_14 x207004_14 x207005_14 x207006_14 x207007_14 x207008_14 x207009_14 x207010_14 from by exact And.intro (by (with_reducible repeat (first | refine blk_drewN ?_ _ | refine blk_drew ?_ | refine blk_alloc ?_ _)); exact BK206.out) GW206.out) (by (with_reducible repeat (first | apply Kd.R_alloc | apply Kd.R_drewN | apply Kd.R_drew)); exact HO_7.out) (by decide)) hk (fun _ h => h.2)) (fun _ h => h.1)); have n1_ := Aside0.mk (Kd.R_mono (Kd.R_keep (IsS38.apart (show IsS38 w _ gb206 x207000_14 x207001_14 x207002_14 x207003_14 x207004_14 x207005_14 x207006_14 x207007_14 x207008_14 x207009_14 x207010_14 from by exact And.intro (by (with_reducible repeat (first | refine blk_drewN ?_ _ | refine blk_drew ?_ | refine blk_alloc ?_ _)); exact BK206.out) GW206.out) (by (with_reducible repeat (first | apply Kd.R_alloc | apply Kd.R_drewN | apply Kd.R_drew)); exact HO_8.out) (by decide)) hk (fun _ h => h.2)) (fun _ h => h.1)); have n2_ := Aside0.mk (hb); have n3_ := Aside0.mk ((And.left hi)); clear HO_7; clear HO_8; clear HB; clear BK206; have HO_7 := n0_; have HO_8 := n1_; have HB := n2_; have BK206 := n3_; clear n0_ n1_ n2_ n3_; (try clear hb); (try clear hb2); (try clear hk); (try clear hi); obtain ⟨Ao31, co31, eo31⟩ := Kd.R_slice HO_8.out; subst eo31; have p292 : 0 ≤ (x9_1 : Int) := of_decide_eq_true (by first | (with_reducible assumption) | assumption); have q292 : x9_1 < (y210.length : Int) := of_decide_eq_true (by first | (with_reducible assumption) | assumption); obtain ⟨ad292, e292, hx292_0⟩ := Kd.at_int (Kd.R_reads' HO_8.out).2.2 x9_1 p292 q292; cases e292; replace p292 := eq_true p292; replace q292 := eq_true q292))
                      (try simp only [Act.put, List.setIfInBounds_toArray, List.set_cons_zero, List.set_cons_succ])
                      go_cut [66] (fun v66 wc => ∃ (kq : Nat) (x66_28 : Bool), v66 = .bool x66_28 ∧ Aside0 (corrallaw6_CsrMasks.j2 kq a0 a1 true y207 y210 x9_1 t279 t280 (Go.bits .and .u32 a0 (rd y210 x9_1)) x66_28 t281 t282 t283 t284 t285 t286 t287 t288 t289 t290 t291 = some r) ∧ Aside0 (kq ≤ kj14) ∧ Aside0 (Kd.R (Kd.int .i64) 3 wc w.heap.size (fun _ => True) (.slice (some ad278) y207.length co16) y207) ∧ Aside0 (Kd.R (Kd.int .u32) 22 wc w.heap.size (fun _ => True) (.slice (some ad292) y210.length co31) y210) ∧ Aside0 (wc.heap[gb206]? = some (.cells #[.bool t281, .int .u32 t282, .int .u32 t283, .int .u32 t284, .int .u32 t285, .int .u32 t286, .int .u32 t287, .int .u32 t288, .int .u32 t289, .int .u32 t290, .int .u32 t291] 38 (0, 0))) ∧ Aside0 (Below w.heap.size w wc))
                      case first =>
                        have H := HC29.out
                        clear HC29
                        by_cases c32 : (rd y207 x9_1) = 768
                        · rw [if_pos c32] at H
                          have c32b0 : ((rd y207 x9_1) == 768) = true := beq_iff_eq.mpr c32
                          have c32b1 : ((rd y207 x9_1) != 768) = false := bne_eq_false_iff_eq.mpr c32
                          clear c32
                          (first | rw [c32b0] | (simp only [i64_w, i32_w]; rw [c32b0]) | skip)
                          have H' := Aside0.mk H
                          clear H
                          have p293 : 0 ≤ (x9_1 : Int) := of_decide_eq_true (by first | (with_reducible assumption) | assumption)
                          have q293 : x9_1 < (y207.length : Int) := of_decide_eq_true (by first | (with_reducible assumption) | assumption)
                          obtain ⟨ad293, e293, hx293_0⟩ := Kd.at_int (Kd.R_reads' HO_7.out).2.2 x9_1 p293 q293
                          obtain rfl : ad278 = ad293 := (by injection e293)
                          replace p293 := eq_true p293
                          replace q293 := eq_true q293
                          go_wp2
                          go_meet
                          case rel => exact ⟨_, (((Go.bits .and .u32 a0 6144) == 6144)), (by first | rfl | (simp; done) | (simp [*]; done)), H', ⟨by have := HK1.out; have := HJ14.out; first | omega | exact Nat.le_refl _⟩, ⟨by (with_reducible repeat (first | apply Kd.R_alloc | apply Kd.R_drewN | apply Kd.R_drew)); exact HO_7.out⟩, ⟨by (with_reducible repeat (first | apply Kd.R_alloc | apply Kd.R_drewN | apply Kd.R_drew)); exact HO_8.out⟩, ⟨by (with_reducible repeat (first | refine blk_drewN ?_ _ | refine blk_drew ?_ | refine blk_alloc ?_ _)); exact BK206.out⟩, ⟨by repeat (first | (with_reducible first | exact HB.out | apply below_alloc | apply pw_below_drewN | apply below_drew1 | refine below_set ?_ GE206.out) | exact HB.out)⟩⟩
                        · rw [if_neg c32] at H
                          have c32b0 : ((rd y207 x9_1) == 768) = false := beq_eq_false_iff_ne.mpr c32
                          have c32b1 : ((rd y207 x9_1) != 768) = true := bne_iff_ne.mpr c32
                          (first | rw [c32b0] | (simp only [i64_w, i32_w]; rw [c32b0]) | skip)
                          have H' := Aside0.mk H
                          clear H
                          have p293 : 0 ≤ (x9_1 : Int) := of_decide_eq_true (by first | (with_reducible assumption) | assumption)
                          have q293 : x9_1 < (y207.length : Int) := of_decide_eq_true (by first | (with_reducible assumption) | assumption)
                          obtain ⟨ad293, e293, hx293_0⟩ := Kd.at_int (Kd.R_reads' HO_7.out).2.2 x9_1 p293 q293
                          obtain rfl : ad278 = ad293 := (by injection e293)
                          replace p293 := eq_true p293
                          replace q293 := eq_true q293
                          go_wp2
                          go_meet
                          case rel => exact ⟨_, (false), (by first | rfl | (simp; done) | (simp [*]; done)), H', ⟨by have := HK1.out; have := HJ14.out; first | omega | exact Nat.le_refl _⟩, ⟨by (with_reducible repeat (first | apply Kd.R_alloc | apply Kd.R_drewN | apply Kd.R_drew)); exact HO_7.out⟩, ⟨by (with_reducible repeat (first | apply Kd.R_alloc | apply Kd.R_drewN | apply Kd.R_drew)); exact HO_8.out⟩, ⟨by (with_reducible repeat (first | refine blk_drewN ?_ _ | refine blk_drew ?_ | refine blk_alloc ?_ _)); exact BK206.out⟩, ⟨by repeat (first | (with_reducible first | exact HB.out | apply below_alloc | apply pw_below_drewN | apply below_drew1 | refine below_set ?_ GE206.out) | exact HB.out)⟩⟩
                      case rest =>
                        clear HC29
                        try clear c1
                        try clear c2
                        try clear p2
                        try clear q2
                        try clear hx2
                        try clear c3
                        try clear c4
                        try clear c7
                        try clear c14
                        try clear c14b0
                        try clear c17
                        try clear c17b0
                        try clear c19
                        try clear c20
                        try clear c21
                        try clear c22
                        try clear c23
                        try clear c24
                        try clear c25
                        try clear c25b0
                        try clear p25
                        try clear q25
                        try clear hx25
                        try clear c26
                        try clear c26b0
                        try clear p26
                        try clear q26
                        try clear hx26
                        try clear p27
                        try clear q27
                        try clear hx27
                        try clear c28
                        try clear c28b0
                        try clear p29
                        try clear q29
                        try clear hx29
                        try clear c32
                        try clear c32b0
                        try clear c32b1
                        try clear hcz9_0
                        try clear hcz9_1
                        try clear hcz9_10
                        try clear hcz9_2
                        try clear hcz9_3
                        try clear hcz9_4
                        try clear hcz9_5
                        try clear hcz9_6
                        try clear hcz9_7
                        try clear hcz9_8
                        try clear hcz9_9
                        try clear hfz9_0
                        try clear hfz9_1
                        try clear hfz9_10
                        try clear hfz9_2
                        try clear hfz9_3
                        try clear hfz9_4
                        try clear hfz9_5
                        try clear hfz9_6
                        try clear hfz9_7
                        try clear hfz9_8
                        try clear hfz9_9
                        try clear hx252_0
                        try clear hx265_0
                        try clear hx278_0
                        try clear hx292_0
                        try clear hx293_0
                        try clear p2
                        try clear p252
                        try clear p265
                        try clear p278
                        try clear p292
                        try clear p293
                        try clear q2
                        try clear q252
                        try clear q265
                        try clear q278
                        try clear q292
                        try clear q293
                        obtain ⟨kq, x66_28, rfl, HA, HJ28, HO_7, HO_8, BK206, HB⟩ := hcut
                        cases kq with
                        | zero => exact absurd HA.out (by simp [corrallaw6_CsrMasks.j2])
                        | succ kj28 =>
                          have H := HA.out
                          clear HA
                          simp only [corrallaw6_CsrMasks.j2] at H
                          by_cases c33 : x66_28 = true
                          · subst c33
                            have H1 : (if t280 = true then (if t279 = (Go.bits .or .u32 (Go.bits .and .u32 a0 (rd y210 x9_1)) 6144) then (corrallaw6_CsrMasks.l0 kj28 a0 a1 true y207 y210 (wrap64 (x9_1 + 1)) t281 t282 t283 t284 t285 t286 t287 t288 t289 t290 t291) else (some false)) else (some false)) = some r := by rw [if_pos rfl] at H; exact H
                            clear H
                            have H := H1
                            clear H1
                            by_cases c34 : t280 = true
                            · subst c34
                              have H1 : (if t279 = (Go.bits .or .u32 (Go.bits .and .u32 a0 (rd y210 x9_1)) 6144) then (corrallaw6_CsrMasks.l0 kj28 a0 a1 true y207 y210 (wrap64 (x9_1 + 1)) t281 t282 t283 t284 t285 t286 t287 t288 t289 t290 t291) else (some false)) = some r := by rw [if_pos rfl] at H; exact H
                              clear H
                              have H := H1
                              clear H1
                              by_cases c35 : t279 = (Go.bits .or .u32 (Go.bits .and .u32 a0 (rd y210 x9_1)) 6144)
                              · rw [if_pos c35] at H
                                have c35b0 : (t279 == (Go.bits .or .u32 (Go.bits .and .u32 a0 (rd y210 x9_1)) 6144)) = true := beq_iff_eq.mpr c35
                                have c35b1 : (t279 != (Go.bits .or .u32 (Go.bits .and .u32 a0 (rd y210 x9_1)) 6144)) = false := bne_eq_false_iff_eq.mpr c35
                                clear c35
                                have H' := Aside0.mk H
                                clear H
                                go_wp2
                                go_roundg kj28
                                case measure => have := HK1.out; have := HJ14.out; have := HJ28.out; omega
                                case rel => exact ⟨(wrap64 (x9_1 + 1)), (t281), (t282), (t283), (t284), (t285), (t286), (t287), (t288), (t289), (t290), (t291), (by first | rfl | (simp; done) | (simp [*]; done)), H', ⟨by have := HK1.out; have := HJ14.out; have := HJ28.out; omega⟩, ⟨by (with_reducible repeat (first | apply Kd.R_alloc | apply Kd.R_drewN | apply Kd.R_drew)); exact HO_7.out⟩, ⟨by (with_reducible repeat (first | apply Kd.R_alloc | apply Kd.R_drewN | apply Kd.R_drew)); exact HO_8.out⟩, ⟨by (with_reducible repeat (first | refine blk_drewN ?_ _ | refine blk_drew ?_ | refine blk_alloc ?_ _)); exact BK206.out⟩, ⟨by repeat (first | (with_reducible first | exact HB.out | apply below_alloc | apply pw_below_drewN | apply below_drew1 | refine below_set ?_ GE206.out) | exact HB.out)⟩⟩
                              · rw [if_neg c35] at H
                                have c35b0 : (t279 == (Go.bits .or .u32 (Go.bits .and .u32 a0 (rd y210 x9_1)) 6144)) = false := beq_eq_false_iff_ne.mpr c35
                                have c35b1 : (t279 != (Go.bits .or .u32 (Go.bits .and .u32 a0 (rd y210 x9_1)) 6144)) = true := bne_iff_ne.mpr c35
                                exact absurd (Option.some.inj H) (by rw [HRT.out]; decide)
                            · replace c34 := Bool.eq_false_iff.mpr c34
                              subst c34
                              have H1 : (some false) = some r := by rw [if_neg (show ¬ (false = true) by decide)] at H; exact H
                              clear H
                              have H := H1
                              clear H1
                              exact absurd (Option.some.inj H) (by rw [HRT.out]; decide)
                          · replace c33 := Bool.eq_false_iff.mpr c33
                            subst c33
                            have H1 : (if t280 = true then (if t279 = (Go.bits .and .u32 a0 (rd y210 x9_1)) then (corrallaw6_CsrMasks.l0 kj28 a0 a1 true y207 y210 (wrap64 (x9_1 + 1)) t281 t282 t283 t284 t285 t286 t287 t288 t289 t290 t291) else (some false)) else (some false)) = some r := by rw [if_neg (show ¬ (false = true) by decide)] at H; exact H
                            clear H
                            have H := H1
                            clear H1
                            by_cases c36 : t280 = true
                            · subst c36
                              have H1 : (if t279 = (Go.bits .and .u32 a0 (rd y210 x9_1)) then (corrallaw6_CsrMasks.l0 kj28 a0 a1 true y207 y210 (wrap64 (x9_1 + 1)) t281 t282 t283 t284 t285 t286 t287 t288 t289 t290 t291) else (some false)) = some r := by rw [if_pos rfl] at H; exact H
                              clear H
                              have H := H1
                              clear H1
                              by_cases c37 : t279 = (Go.bits .and .u32 a0 (rd y210 x9_1))
                              · rw [if_pos c37] at H
                                have c37b0 : (t279 == (Go.bits .and .u32 a0 (rd y210 x9_1))) = true := beq_iff_eq.mpr c37
                                have c37b1 : (t279 != (Go.bits .and .u32 a0 (rd y210 x9_1))) = false := bne_eq_false_iff_eq.mpr c37
                                clear c37
                                have H' := Aside0.mk H
                                clear H
                                go_wp2
                                go_roundg kj28
                                case measure => have := HK1.out; have := HJ14.out; have := HJ28.out; omega
                                case rel => exact ⟨(wrap64 (x9_1 + 1)), (t281), (t282), (t283), (t284), (t285), (t286), (t287), (t288), (t289), (t290), (t291), (by first | rfl | (simp; done) | (simp [*]; done)), H', ⟨by have := HK1.out; have := HJ14.out; have := HJ28.out; omega⟩, ⟨by (with_reducible repeat (first | apply Kd.R_alloc | apply Kd.R_drewN | apply Kd.R_drew)); exact HO_7.out⟩, ⟨by (with_reducible repeat (first | apply Kd.R_alloc | apply Kd.R_drewN | apply Kd.R_drew)); exact HO_8.out⟩, ⟨by (with_reducible repeat (first | refine blk_drewN ?_ _ | refine blk_drew ?_ | refine blk_alloc ?_ _)); exact BK206.out⟩, ⟨by repeat (first | (with_reducible first | exact HB.out | apply below_alloc | apply pw_below_drewN | apply below_drew1 | refine below_set ?_ GE206.out) | exact HB.out)⟩⟩
                              · rw [if_neg c37] at H
                                have c37b0 : (t279 == (Go.bits .and .u32 a0 (rd y210 x9_1))) = false := beq_eq_false_iff_ne.mpr c37
                                have c37b1 : (t279 != (Go.bits .and .u32 a0 (rd y210 x9_1))) = true := bne_iff_ne.mpr c37
                                exact absurd (Option.some.inj H) (by rw [HRT.out]; decide)
                            · replace c36 := Bool.eq_false_iff.mpr c36
                              subst c36
                              have H1 : (some false) = some r := by rw [if_neg (show ¬ (false = true) by decide)] at H; exact H
                              clear H
                              have H := H1
                              clear H1
                              exact absurd (Option.some.inj H) (by rw [HRT.out]; decide)
                    · rw [if_neg c28] at H
                      exact absurd H (by simp)
                  · rw [if_neg c26] at H
                    exact absurd H (by simp)
                · rw [if_neg c25] at H
                  exact absurd H (by simp)
        · rw [if_neg c14] at H
          have c14b0 : decide (x9_1 < (y207.length : Int)) = false := decide_eq_false c14
          clear c14
          replace H := Option.bind_eq_some_iff.mp H
          obtain ⟨⟨t213, t214, t215, t216, t217, t218, t219, t220, t221, t222, t223, t224, t225⟩, A380, H⟩ := H
          replace H : (if true = true then (if t213 = 2 then ((csr_File_Satp.f t215 t216 t217 t218 t219 t220 t221 t222 t223 t224 t225).bind fun bt226 => (if bt226.1 = (Go.bits .and .u32 a0 2151677951) then ((csr_File_All.f bt226.2.1 bt226.2.2.1 bt226.2.2.2.1 bt226.2.2.2.2.1 bt226.2.2.2.2.2.1 bt226.2.2.2.2.2.2.1 bt226.2.2.2.2.2.2.2.1 bt226.2.2.2.2.2.2.2.2.1 bt226.2.2.2.2.2.2.2.2.2.1 bt226.2.2.2.2.2.2.2.2.2.2.1 bt226.2.2.2.2.2.2.2.2.2.2.2).bind fun bt238 => (some ((bt238.1.length : Int) == 10))) else (some false))) else (some false)) else (some false)) = some r := H
          have A38 := Aside0.mk A380
          clear A380
          replace H : (if t213 = 2 then ((csr_File_Satp.f t215 t216 t217 t218 t219 t220 t221 t222 t223 t224 t225).bind fun bt226 => (if bt226.1 = (Go.bits .and .u32 a0 2151677951) then ((csr_File_All.f bt226.2.1 bt226.2.2.1 bt226.2.2.2.1 bt226.2.2.2.2.1 bt226.2.2.2.2.2.1 bt226.2.2.2.2.2.2.1 bt226.2.2.2.2.2.2.2.1 bt226.2.2.2.2.2.2.2.2.1 bt226.2.2.2.2.2.2.2.2.2.1 bt226.2.2.2.2.2.2.2.2.2.2.1 bt226.2.2.2.2.2.2.2.2.2.2.2).bind fun bt238 => (some ((bt238.1.length : Int) == 10))) else (some false))) else (some false)) = some r := by first | (rw [if_pos rfl] at H; exact H) | (rw [if_pos trivial] at H; exact H)
          by_cases c39 : t213 = 2
          · rw [if_pos c39] at H
            have c39b0 : (t213 == 2) = true := beq_iff_eq.mpr c39
            have c39b1 : (t213 != 2) = false := bne_eq_false_iff_eq.mpr c39
            clear c39
            replace H := Option.bind_eq_some_iff.mp H
            obtain ⟨⟨t226, t227, t228, t229, t230, t231, t232, t233, t234, t235, t236, t237⟩, A400, H⟩ := H
            replace H : (if t226 = (Go.bits .and .u32 a0 2151677951) then ((csr_File_All.f t227 t228 t229 t230 t231 t232 t233 t234 t235 t236 t237).bind fun bt238 => (some ((bt238.1.length : Int) == 10))) else (some false)) = some r := H
            have A40 := Aside0.mk A400
            clear A400
            by_cases c41 : t226 = (Go.bits .and .u32 a0 2151677951)
            · rw [if_pos c41] at H
              have c41b0 : (t226 == (Go.bits .and .u32 a0 2151677951)) = true := beq_iff_eq.mpr c41
              have c41b1 : (t226 != (Go.bits .and .u32 a0 2151677951)) = false := bne_eq_false_iff_eq.mpr c41
              clear c41
              replace H := Option.bind_eq_some_iff.mp H
              obtain ⟨⟨t238, t241, t242, t243, t244, t245, t246, t247, t248, t249, t250, t251⟩, A420, H⟩ := H
              replace H : (some ((t238.length : Int) == 10)) = some r := H
              have A42 := Aside0.mk A420
              clear A420
              clear HRT
              obtain rfl := Option.some.inj H
              obtain ⟨Ao43, co43, eo43⟩ := Kd.R_slice HO_7.out
              subst eo43
              go_wp2_with (first | ((with_reducible refine gate_callee (f := 23) rfl ?_); refine goesL_ (some 77) rfl rfl Try.func23 (by kernel_rfl) rfl #[.pointer (some ⟨gb206, 0, none⟩), .int .i64 3860] rfl (by (try simp only [List.map_toArray, List.map_cons, List.map_nil]); first | done | rfl | (simp only [List.length_drop, List.length_take]; rfl)) ?_; (with_reducible refine (csr_File_Get.calls gb206 x207000_1 x207001_1 x207002_1 x207003_1 x207004_1 x207005_1 x207006_1 x207007_1 x207008_1 x207009_1 x207010_1 3860 t213 t214 t215 t216 t217 t218 t219 t220 t221 t222 t223 t224 t225 w _ ?side1 ?side2 A38.out).mono ?_); (case side1 => exact And.intro (by (with_reducible repeat (first | refine blk_drewN ?_ _ | refine blk_drew ?_ | refine blk_alloc ?_ _)); exact BK206.out) GW206.out); (case side2 => repeat (first | (with_reducible first | exact HB.out | apply below_alloc | apply pw_below_drewN | apply below_drew1 | refine below_set ?_ GE206.out) | exact HB.out)); rintro e w44 ⟨rfl, hi, hb, hk⟩; refine ⟨_, rfl, ?_⟩; have n0_ := Aside0.mk (Kd.R_mono (Kd.R_keep (IsS38.apart (show IsS38 w _ gb206 x207000_1 x207001_1 x207002_1 x207003_1 x207004_1 x207005_1 x207006_1 x207007_1 x207008_1 x207009_1 x207010_1 from by exact And.intro (by (with_reducible repeat (first | refine blk_drewN ?_ _ | refine blk_drew ?_ | refine blk_alloc ?_ _)); exact BK206.out) GW206.out) (by (with_reducible repeat (first | apply Kd.R_alloc | apply Kd.R_drewN | apply Kd.R_drew)); exact HO_7.out) (by decide)) hk (fun _ h => h.2)) (fun _ h => h.1)); have n1_ := Aside0.mk (Kd.R_mono (Kd.R_keep (IsS38.apart (show IsS38 w _ gb206 x207000_1 x207001_1 x207002_1 x207003_1 x207004_1 x207005_1 x207006_1 x207007_1 x207008_1 x207009_1 x207010_1 from by exact And.intro (by (with_reducible repeat (first | refine blk_drewN ?_ _ | refine blk_drew ?_ | refine blk_alloc ?_ _)); exact BK206.out) GW206.out) (by (with_reducible repeat (first | apply Kd.R_alloc | apply Kd.R_drewN | apply Kd.R_drew)); exact HO_8.out) (by decide)) hk (fun _ h => h.2)) (fun _ h => h.1)); have n2_ := Aside0.mk (hb); have n3_ := Aside0.mk ((And.left hi)); clear HO_7; clear HO_8; clear HB; clear BK206; have HO_7 := n0_; have HO_8 := n1_; have HB := n2_; have BK206 := n3_; clear n0_ n1_ n2_ n3_; (try clear hb); (try clear hb2); (try clear hk); (try clear hi)) | (go_at_call 24; (with_reducible refine (csr_File_Satp.calls gb206 t215 t216 t217 t218 t219 t220 t221 t222 t223 t224 t225 t226 t227 t228 t229 t230 t231 t232 t233 t234 t235 t236 t237 w _ ?side1 ?side2 A40.out).mono ?_); (case side1 => exact And.intro (by (with_reducible repeat (first | refine blk_drewN ?_ _ | refine blk_drew ?_ | refine blk_alloc ?_ _)); exact BK206.out) GW206.out); (case side2 => repeat (first | (with_reducible first | exact HB.out | apply below_alloc | apply pw_below_drewN | apply below_drew1 | refine below_set ?_ GE206.out) | exact HB.out)); rintro e w45 ⟨rfl, hi, hb, hk⟩; have n0_ := Aside0.mk (Kd.R_mono (Kd.R_keep (IsS38.apart (show IsS38 w _ gb206 t215 t216 t217 t218 t219 t220 t221 t222 t223 t224 t225 from by exact And.intro (by (with_reducible repeat (first | refine blk_drewN ?_ _ | refine blk_drew ?_ | refine blk_alloc ?_ _)); exact BK206.out) GW206.out) (by (with_reducible repeat (first | apply Kd.R_alloc | apply Kd.R_drewN | apply Kd.R_drew)); exact HO_7.out) (by decide)) hk (fun _ h => h.2)) (fun _ h => h.1)); have n1_ := Aside0.mk (Kd.R_mono (Kd.R_keep (IsS38.apart (show IsS38 w _ gb206 t215 t216 t217 t218 t219 t220 t221 t222 t223 t224 t225 from by exact And.intro (by (with_reducible repeat (first | refine blk_drewN ?_ _ | refine blk_drew ?_ | refine blk_alloc ?_ _)); exact BK206.out) GW206.out) (by (with_reducible repeat (first | apply Kd.R_alloc | apply Kd.R_drewN | apply Kd.R_drew)); exact HO_8.out) (by decide)) hk (fun _ h => h.2)) (fun _ h => h.1)); have n2_ := Aside0.mk (hb); have n3_ := Aside0.mk ((And.left hi)); clear HO_7; clear HO_8; clear HB; clear BK206; have HO_7 := n0_; have HO_8 := n1_; have HB := n2_; have BK206 := n3_; clear n0_ n1_ n2_ n3_; (try clear hb); (try clear hb2); (try clear hk); (try clear hi)) | (go_at_call 25; (with_reducible refine (csr_File_All.calls gb206 t227 t228 t229 t230 t231 t232 t233 t234 t235 t236 t237 t238 t241 t242 t243 t244 t245 t246 t247 t248 t249 t250 t251 w _ ?side1 ?side2 A42.out).mono ?_); (case side1 => exact And.intro (by (with_reducible repeat (first | refine blk_drewN ?_ _ | refine blk_drew ?_ | refine blk_alloc ?_ _)); exact BK206.out) GW206.out); (case side2 => repeat (first | (with_reducible first | exact HB.out | apply below_alloc | apply pw_below_drewN | apply below_drew1 | refine below_set ?_ GE206.out) | exact HB.out)); rintro e w46 ⟨v239, rfl, ho0, hi, hb, hk⟩; have n0_ := Aside0.mk (Kd.R_mono (Kd.R_keep (IsS38.apart (show IsS38 w _ gb206 t227 t228 t229 t230 t231 t232 t233 t234 t235 t236 t237 from by exact And.intro (by (with_reducible repeat (first | refine blk_drewN ?_ _ | refine blk_drew ?_ | refine blk_alloc ?_ _)); exact BK206.out) GW206.out) (by (with_reducible repeat (first | apply Kd.R_alloc | apply Kd.R_drewN | apply Kd.R_drew)); exact HO_7.out) (by decide)) hk (fun _ h => h.2)) (fun _ h => h.1)); have n1_ := Aside0.mk (Kd.R_mono (Kd.R_told (Kd.R_oldK (IsS38.apart (show IsS38 w _ gb206 t227 t228 t229 t230 t231 t232 t233 t234 t235 t236 t237 from by exact And.intro (by (with_reducible repeat (first | refine blk_drewN ?_ _ | refine blk_drew ?_ | refine blk_alloc ?_ _)); exact BK206.out) GW206.out) (by (with_reducible repeat (first | apply Kd.R_alloc | apply Kd.R_drewN | apply Kd.R_drew)); exact HO_8.out) (by decide)) hk) (Kd.R_base ho0)) (fun _ h_ => h_.1)); have n2_ := Aside0.mk (Kd.R_lower (Kd.R_new' ho0 (Kd.R_lt (by (with_reducible repeat (first | apply Kd.R_alloc | apply Kd.R_drewN | apply Kd.R_drew)); exact HO_8.out))) (below_size (by repeat (first | (with_reducible first | exact HB.out | apply below_alloc | apply pw_below_drewN | apply below_drew1 | refine below_set ?_ GE206.out) | exact HB.out)))); have n3_ := Aside0.mk (hb); have n4_ := Aside0.mk ((And.left hi)); clear HO_7; clear HO_8; clear HB; clear BK206; have HO_7 := n0_; have HO_8 := n1_; have HO240 := n2_; have HB := n3_; have BK206 := n4_; clear n0_ n1_ n2_ n3_ n4_; (try clear hb); (try clear hb2); (try clear hk); (try clear hi); (try clear ho0); obtain ⟨Ao47, co47, eo47⟩ := Kd.R_slice HO240.out; subst eo47))
              go_ret
              exact ⟨by first | rfl | (simp [errW_none, errW_some] <;> rfl) | (simp [*, errW_none, errW_some] <;> rfl), by repeat (first | (with_reducible first | exact HB.out | apply below_alloc | apply pw_below_drewN | apply below_drew1 | refine below_set ?_ GE206.out) | exact HB.out)⟩
            · rw [if_neg c41] at H
              have c41b0 : (t226 == (Go.bits .and .u32 a0 2151677951)) = false := beq_eq_false_iff_ne.mpr c41
              have c41b1 : (t226 != (Go.bits .and .u32 a0 2151677951)) = true := bne_iff_ne.mpr c41
              exact absurd (Option.some.inj H) (by rw [HRT.out]; decide)
          · rw [if_neg c39] at H
            have c39b0 : (t213 == 2) = false := beq_eq_false_iff_ne.mpr c39
            have c39b1 : (t213 != 2) = true := bne_iff_ne.mpr c39
            exact absurd (Option.some.inj H) (by rw [HRT.out]; decide)
  · replace c4 := Bool.eq_false_iff.mpr c4
    subst c4
    have H1 : (some false) = some r := by rw [if_neg (show ¬ (false = true) by decide)] at H; exact H
    clear H
    have H := H1
    clear H1
    exact absurd (Option.some.inj H) (by rw [HRT.out]; decide)

/-- THE ONE PURE STATEMENT of corrallaw6_CsrMasks: yours. -/
def corrallaw6_CsrMasks.Pure : Prop := ∀ (a0 : Int) (a1 : Int), (Lit.int .u32 a0).wf = true → (Lit.int .u32 a1).wf = true → ∃ k, corrallaw6_CsrMasks.f k a0 a1 = some true
theorem corrallaw6_CsrMasks.walk (P : corrallaw6_CsrMasks.Pure) (a0 : Int) (a1 : Int) (w : World) (w0 : (Lit.int .u32 a0).wf = true) (w1 : (Lit.int .u32 a1).wf = true) :
    Calls Try.prog 7 #[.int .u32 a0, .int .u32 a1] w fun e w' => e = .returned (.bool true) ∧ Below w.heap.size w w' := by
  obtain ⟨k, h⟩ := P a0 a1 w0 w1
  refine (corrallaw6_CsrMasks.calls k a0 a1 true w h rfl).mono ?_
  rintro e w' ⟨rfl, hd⟩
  exact ⟨rfl, hd⟩

end Go.Proofs.Ytcaohimipkoapaa.QCsrMasks
