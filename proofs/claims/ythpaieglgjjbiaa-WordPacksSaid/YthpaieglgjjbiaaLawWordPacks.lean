/- The row of WordPacks: for every slice of fields, however long, the call returns true and the slice reads as it did; no condition. -/
import Derived.Test.YthpaieglgjjbiaaRows
import Derived.Test.YthpaieglgjjbiaaQWordPacksx3
import Derived.Test.YthpaieglgjjbiaaPureWordPacks
import Derived.Test.YthpaieglgjjbiaaOpen
import Derived.WalkKit
import Derived.ProofKit
import Derived.OpenShut
import Derived.ShutString
import Derived.ChangeOld
import Derived.Below
import Derived.SizedLaws
namespace Go.Proofs.Ythpaieglgjjbiaa.wordPacks
open Go.ChangeShapes Go.WideShapes Go.ChangeAt Go.RowKit Go.Proofs.Ythpaieglgjjbiaa.Op Go.Proofs.YthpaieglgjjbiaaW.PrintWords Go.Proofs.Ythpaieglgjjbiaa.QWordPacks
open Go.ChangeMaps (open_string shut_string)
set_option linter.unusedVariables false
theorem own : ownKnob Try.prog.godebug = none := by kernel_rfl
theorem laidOut : laidOutB Try.prog = true := by kernel_rfl
theorem opensField : Opens Try.prog 37 k37 (fun x : S37 => (Lit.int .i64 x.f0).wf = true ∧ (Lit.int .i64 x.f1).wf = true ∧ (Lit.int .u32 x.f2).wf = true) :=
  opens_struct (f := fun x : S37 => (x.f0, x.f1, x.f2)) Try.underlying37 (by kernel_rfl)
    (opensF_cons (d := Kd.int .i64) rfl (by kernel_rfl) (opens_int Try.underlying3) (opensF_cons (d := Kd.int .i64) rfl (by kernel_rfl) (opens_int Try.underlying3) (opensF_one (d := Kd.int .u32) rfl (by kernel_rfl) (opens_int Try.underlying22))))
    (fun a => ⟨⟨a.1, a.2.1, a.2.2⟩, rfl⟩)
theorem goods {l : List S37} (h : ∀ x ∈ l, (Lit.int .i64 x.f0).wf = true ∧ (Lit.int .i64 x.f1).wf = true ∧ (Lit.int .u32 x.f2).wf = true) : ∀ f ∈ l, Pure.WordPacksP.Good f := by
  intro f hf
  obtain ⟨h0, h1, h2⟩ := h f hf
  exact ⟨Bv.wf_i64 h0, Bv.wf_i64 h1, Bv.wf_u32 h2⟩
set_option maxRecDepth 100000 in
theorem lifted (os : Os) (started : os.Started) (H : Type) (enc : TypeId × Value → H) :
    ReturnsInHanded {} Try.checked os 6 .any (Rows.wordPacksSpec.pre6 enc Try.prog Try.f6 Rows.wordPacksRow.domain false) (Rows.wordPacksSpec.post enc Try.prog Try.f6 false true false false) := by
  refine returnsInHanded_of_change_sized (C := Try.checked) own started (by kernel_rfl) Try.func6
    (ChangeSpec.witness6 (enc := enc) (C := Try.checked) false ⟨#[], #[.slice none 0 0], []⟩ 8 (by kernel_rfl) (by kernel_rfl) (by kernel_rfl) (by kernel_rfl)) ?_
  intro W base args ds gs before hval0 hW hcnd hsz0 _
  have hval : ∀ (j : Nat) t v, Try.f6.params[j]? = some t → args[j]? = some v → Value.okWide Try.prog W .any base t v := hval0
  have hW' := hW
  obtain ⟨p, q, hA0, hV, rfl, hfz, hnd⟩ := hW
  have hA : DataW.TrodAll enc Try.prog W 0 (fun _ => true) true Try.f6.params.toList args.toList ds p := hA0
  rw [Try.params6] at hA hval
  obtain ⟨v0, vs0, d0, ds0, p0, q0, hargs, rfl, rfl, h0, r0⟩ := trodAll_cons hA
  obtain ⟨rfl, rfl, rfl⟩ := trodAll_nil r0
  obtain rfl : args = #[v0] := by cases args; simp_all
  obtain ⟨rfl, rfl⟩ := trodVars_none hV
  obtain ⟨a0, len0, cap0, rfl⟩ := okWide_slice Try.underlying33 (hval 0 33 v0 rfl rfl)
  have k0 := h0
  have lt0 : ∀ x ∈ p0, x.block < W.heap.size := by obtain ⟨m, hm⟩ := k0; exact DataW.trod_lt m _ _ _ hm
  obtain ⟨fuel, hf⟩ := h0
  obtain ⟨A, c, l, hcs, hlc, hC, hg, hml⟩ := opens_row Try.underlying33 (by kernel_rfl) opensField hf
  have hcs' : a0 = A ∧ len0 = l.length ∧ cap0 = c := by simpa [Value.cells] using hcs
  obtain ⟨rfl, rfl, rfl⟩ := hcs'
  obtain ⟨k, hk⟩ := Pure.WordPacks l (goods hg)
  clear hA0 hval0 hsz0
  refine (corrallaw1_WordPacks.calls k _ _ l true W hC hlc hk rfl).mono fun e W' ⟨he, bel⟩ => ?_
  subst he
  exact ⟨_, rfl, _, _, _, [], _, [], hW', trodAll_mk1 (shut_bool Try.underlying4 _), (trodAll_cons_mk (Below.trod laidOut (by kernel_rfl) (of_decide_eq_true (by kernel_rfl)) k0 bel lt0) trodAll_mk0), rfl, bel.frame _, fun h => by cases h⟩
theorem over : Rows.wordPacksRow.holds Try.pinned (OpenSpec.ofChange Rows.wordPacksSpec) :=
  OpenClaim.holds_of_wide 6 Try.f6 rfl rfl rfl rfl rfl rfl rfl ⟨rfl, rfl, rfl, rfl, rfl⟩ rfl rfl rfl rfl rfl (by kernel_rfl) Try.func6 (by kernel_rfl)
    (of_decide_eq_true (by kernel_rfl)) (by unfold Func.isWrapper; first | (rw [if_pos (by decide +kernel)]; kernel_rfl) | (rw [if_neg (by decide +kernel)]; exact ⟨rfl, rfl⟩))
    (fun os started H enc _ => lifted os started H enc)
theorem proved : Rows.WordPacksSaid := over
#print axioms proved
end Go.Proofs.Ythpaieglgjjbiaa.wordPacks
namespace Go.Proofs.Ythpaieglgjjbiaa
/-- The row, under a short name, for the claim. -/
theorem wordPacks_holds : Rows.WordPacksSaid := wordPacks.proved
end Go.Proofs.Ythpaieglgjjbiaa
