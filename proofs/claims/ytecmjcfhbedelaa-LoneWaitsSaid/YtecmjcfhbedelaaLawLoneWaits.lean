/- The row of LoneWaits: for every two bools' ways and every line of data: an array handed in by value is opened as its four cells. -/
import Derived.Test.YtecmjcfhbedelaaRows
import Derived.Test.YtecmjcfhbedelaaLoneWaits
import Derived.WalkKit
import Derived.ProofKit
import Derived.OpenShut
import Derived.ShutString
import Derived.ChangeOld
import Derived.Below
import Derived.SizedLaws
namespace Go.Proofs.Ytecmjcfhbedelaa.loneWaits
open Go.ChangeShapes Go.WideShapes Go.ChangeAt Go.RowKit
open Go.ChangeMaps (open_string shut_string)
set_option linter.unusedVariables false
theorem own : ownKnob Try.prog.godebug = none := by kernel_rfl
theorem laidOut : laidOutB Try.prog = true := by kernel_rfl
/-- A line that is handed in: its four numbers. -/
theorem open_line {H : Type} {enc : TypeId × Value → H} {W : World} {base : Nat} {v : Value} {d : DataW H} {ps : List MemPlace}
    (hv : Value.okWide Try.prog W .any base 25 v) (h : DataW.Trod enc Try.prog W 0 (fun _ => true) true 25 v d ps) :
    ∃ x0 x1 x2 x3 : Int, v = .agg #[.int .u32 x0, .int .u32 x1, .int .u32 x2, .int .u32 x3] := by
  unfold Value.okWide at hv
  rw [Try.underlying25] at hv
  obtain ⟨cs, rfl, hs, _⟩ := hv
  obtain ⟨n, hn⟩ := h
  obtain ⟨xs, m, _, _, hl, hx, he⟩ := DataW.trod_array Try.underlying25 hn
  have c1 : Try.prog.cellsOf 23 = 1 := by kernel_rfl
  have c4 : Try.prog.cellsOf 25 = 4 := by kernel_rfl
  rw [c1] at he
  rw [c4] at hl
  have hl' : cs.toList.length = 4 := hl
  obtain ⟨a, b, c, e, hc⟩ : ∃ a b c e, cs.toList = [a, b, c, e] := by
    match h : cs.toList, hl' with
    | [a, b, c, e], _ => exact ⟨a, b, c, e, rfl⟩
  have key : ∀ (i : Nat) (z : Value), i < 4 → (cs.toList.drop (i * 1)).take 1 = [z] → ∃ x : Int, z = .int .u32 x := by
    intro i z hi hz
    have h1 := he i hi
    have h2 : (Value.agg cs).cells.toList = cs.toList := rfl
    rw [h2, hz, List.getElem?_eq_getElem (by omega)] at h1
    obtain ⟨y, hy, _⟩ := DataW.trod_int Try.underlying23 h1
    have hy' : [z] = [Value.int .u32 y] := hy
    exact ⟨y, by injection hy'⟩
  obtain ⟨x0, rfl⟩ := key 0 a (by omega) (by rw [hc]; rfl)
  obtain ⟨x1, rfl⟩ := key 1 b (by omega) (by rw [hc]; rfl)
  obtain ⟨x2, rfl⟩ := key 2 c (by omega) (by rw [hc]; rfl)
  obtain ⟨x3, rfl⟩ := key 3 e (by omega) (by rw [hc]; rfl)
  refine ⟨x0, x1, x2, x3, ?_⟩
  rw [show cs = cs.toList.toArray from by simp, hc]
set_option maxRecDepth 100000 in
theorem lifted (os : Os) (started : os.Started) (H : Type) (enc : TypeId × Value → H) :
    ReturnsInHanded {} Try.checked os 8 .any (Rows.loneWaitsSpec.pre6 enc Try.prog Try.f8 Rows.loneWaitsRow.domain false) (Rows.loneWaitsSpec.post enc Try.prog Try.f8 false true false false) := by
  refine returnsInHanded_of_change_sized (C := Try.checked) own started (by kernel_rfl) Try.func8
    (ChangeSpec.witness6 (enc := enc) (C := Try.checked) false ⟨#[], #[.bool false, .bool false, .bool false, .agg #[.int .u32 0, .int .u32 0, .int .u32 0, .int .u32 0]], []⟩ 8 (by kernel_rfl) (by kernel_rfl) (by kernel_rfl) (by kernel_rfl)) ?_
  intro W base args ds gs before hval0 hW hcnd hsz0 _
  have hval : ∀ (j : Nat) t v, Try.f8.params[j]? = some t → args[j]? = some v → Value.okWide Try.prog W .any base t v := hval0
  have hW' := hW
  obtain ⟨p, q, hA0, hV, rfl, hfz, hnd⟩ := hW
  have hA : DataW.TrodAll enc Try.prog W 0 (fun _ => true) true Try.f8.params.toList args.toList ds p := hA0
  rw [Try.params8] at hA hval
  obtain ⟨v0, vs0, d0, ds0, p0, q0, hargs, rfl, rfl, h0, r0⟩ := trodAll_cons hA
  obtain ⟨v1, vs1, d1, ds1, p1, q1, rfl, rfl, rfl, h1, r1⟩ := trodAll_cons r0
  obtain ⟨v2, vs2, d2, ds2, p2, q2, rfl, rfl, rfl, h2, r2⟩ := trodAll_cons r1
  obtain ⟨v3, vs3, d3, ds3, p3, q3, rfl, rfl, rfl, h3, r3⟩ := trodAll_cons r2
  obtain ⟨rfl, rfl, rfl⟩ := trodAll_nil r3
  obtain rfl : args = #[v0, v1, v2, v3] := by cases args; simp_all
  obtain ⟨rfl, rfl⟩ := trodVars_none hV
  obtain ⟨a0, rfl, rfl, rfl⟩ := open_bool Try.underlying4 (hval 0 4 v0 rfl rfl) h0
  obtain ⟨a1, rfl, rfl, rfl⟩ := open_bool Try.underlying4 (hval 1 4 v1 rfl rfl) h1
  obtain ⟨a2, rfl, rfl, rfl⟩ := open_bool Try.underlying4 (hval 2 4 v2 rfl rfl) h2
  have k3 := h3
  have lt3 : ∀ x ∈ p3, x.block < W.heap.size := by obtain ⟨m, hm⟩ := k3; exact DataW.trod_lt m _ _ _ hm
  obtain ⟨x0, x1, x2, x3, rfl⟩ := open_line (hval 3 25 v3 rfl rfl) h3
  clear hA0 hval0 hsz0
  refine (Ab.loneWaits_run a0 a1 a2 x0 x1 x2 x3 W).mono fun e W' ⟨he, bel⟩ => ?_
  subst he
  exact ⟨_, rfl, _, _, _, [], _, [], hW', trodAll_mk1 (shut_bool Try.underlying4 _), (trodAll_cons_mk (shut_bool Try.underlying4 _) (trodAll_cons_mk (shut_bool Try.underlying4 _) (trodAll_cons_mk (shut_bool Try.underlying4 _) (trodAll_cons_mk (Below.trod laidOut (by kernel_rfl) (of_decide_eq_true (by kernel_rfl)) k3 bel lt3) trodAll_mk0)))), rfl, bel.frame _, fun h => by cases h⟩
theorem over : Rows.loneWaitsRow.holds Try.pinned (OpenSpec.ofChange Rows.loneWaitsSpec) :=
  OpenClaim.holds_of_wide 8 Try.f8 rfl rfl rfl rfl rfl rfl rfl ⟨rfl, rfl, rfl, rfl, rfl⟩ rfl rfl rfl rfl rfl (by kernel_rfl) Try.func8 (by kernel_rfl)
    (of_decide_eq_true (by kernel_rfl)) (by unfold Func.isWrapper; first | (rw [if_pos (by decide +kernel)]; kernel_rfl) | (rw [if_neg (by decide +kernel)]; exact ⟨rfl, rfl⟩))
    (fun os started H enc _ => lifted os started H enc)
theorem proved : Rows.LoneWaitsSaid := over
#print axioms proved
end Go.Proofs.Ytecmjcfhbedelaa.loneWaits
namespace Go.Proofs.Ytecmjcfhbedelaa
/-- The row, under a short name, for the claim. -/
theorem loneWaits_holds : Rows.LoneWaitsSaid := loneWaits.proved
end Go.Proofs.Ytecmjcfhbedelaa
