/- The row of LoneAnswers: for every slice of steps, however long, every kind and every line of data. -/
import Derived.Test.YtecmjcfhbedelaaRows
import Derived.Test.YtecmjcfhbedelaaLoneAnswers
import Derived.Deep.Slices
import Derived.WalkKit
import Derived.ProofKit
import Derived.OpenShut
import Derived.ShutString
import Derived.ChangeOld
import Derived.Below
import Derived.SizedLaws
namespace Go.Proofs.Ytecmjcfhbedelaa.loneAnswers
open Go.ChangeShapes Go.WideShapes Go.ChangeAt Go.RowKit
open Go.ChangeMaps (open_string shut_string)
set_option linter.unusedVariables false
theorem own : ownKnob Try.prog.godebug = none := by kernel_rfl
theorem laidOut : laidOutB Try.prog = true := by kernel_rfl
/-- A line that is handed in: its four numbers. -/
theorem open_line {H : Type} {enc : TypeId × Value → H} {W : World} {base : Nat} {v : Value} {d : DataW H} {ps : List MemPlace}
    (hv : Value.okWide Try.prog W .any base 25 v) (h : DataW.Trod enc Try.prog W 0 (fun _ => true) true 25 v d ps) :
    ∃ x0 x1 x2 x3 : Int, v = .agg #[.int .u32 x0, .int .u32 x1, .int .u32 x2, .int .u32 x3] := by
  unfold Value.okWide at hv
  rw [Try.underlying25] at hv
  obtain ⟨cs, rfl, hs, _⟩ := hv
  obtain ⟨n, hn⟩ := h
  obtain ⟨xs, m, _, _, hl, hx, he⟩ := DataW.trod_array Try.underlying25 hn
  have c1 : Try.prog.cellsOf 23 = 1 := by kernel_rfl
  have c4 : Try.prog.cellsOf 25 = 4 := by kernel_rfl
  rw [c1] at he
  rw [c4] at hl
  have hl' : cs.toList.length = 4 := hl
  obtain ⟨a, b, c, e, hc⟩ : ∃ a b c e, cs.toList = [a, b, c, e] := by
    match h : cs.toList, hl' with
    | [a, b, c, e], _ => exact ⟨a, b, c, e, rfl⟩
  have key : ∀ (i : Nat) (z : Value), i < 4 → (cs.toList.drop (i * 1)).take 1 = [z] → ∃ x : Int, z = .int .u32 x := by
    intro i z hi hz
    have h1 := he i hi
    have h2 : (Value.agg cs).cells.toList = cs.toList := rfl
    rw [h2, hz, List.getElem?_eq_getElem (by omega)] at h1
    obtain ⟨y, hy, _⟩ := DataW.trod_int Try.underlying23 h1
    have hy' : [z] = [Value.int .u32 y] := hy
    exact ⟨y, by injection hy'⟩
  obtain ⟨x0, rfl⟩ := key 0 a (by omega) (by rw [hc]; rfl)
  obtain ⟨x1, rfl⟩ := key 1 b (by omega) (by rw [hc]; rfl)
  obtain ⟨x2, rfl⟩ := key 2 c (by omega) (by rw [hc]; rfl)
  obtain ⟨x3, rfl⟩ := key 3 e (by omega) (by rw [hc]; rfl)
  refine ⟨x0, x1, x2, x3, ?_⟩
  rw [show cs = cs.toList.toArray from by simp, hc]
/-- A slice that is handed in lies in a block that is there. -/
theorem slice_block {P : Program} {W : World} {base : Nat} {t e : TypeId} {a : Addr} {len cap : Nat} (ht : P.underlying t = some (.slice e)) (h : Value.okWide P W .any base t (.slice (some a) len cap)) :
    len ≤ cap ∧ a.spot = none ∧ ∃ cs t fz, W.heap[a.block]? = some (.cells cs t fz) := by
  simp only [Value.okWide, ht, Cell.okWide, Cell.ok] at h
  obtain ⟨h1, _, _, h2, row, cells, h3, _⟩ := h
  refine ⟨h1, h2, ?_⟩
  unfold World.shape? at h3
  split at h3
  · rename_i c t fz hc; exact ⟨c, t, fz, hc⟩
  · cases h3
/-- A slice of steps that is handed in: none, or a row. -/
theorem open_steps {H : Type} {enc : TypeId × Value → H} {W : World} {base : Nat} {v : Value} {d : DataW H} {ps : List MemPlace}
    (hv : Value.okWide Try.prog W .any base 22 v) (h : DataW.Trod enc Try.prog W 0 (fun _ => true) true 22 v d ps) :
    v = .slice none 0 0 ∨ ∃ (r off n c : Nat) (cs : List Value), v = .slice (some ⟨r, off, none⟩) n c ∧ n ≤ c ∧ Ab.Row W r off n cs := by
  obtain ⟨a0, len0, cap0, rfl⟩ := okWide_slice Try.underlying22 hv
  obtain ⟨fuel, hf⟩ := h
  have c17 : Try.prog.cellsOf 32 = 17 := by kernel_rfl
  have c3 : Try.prog.cellsOf 3 = 1 := by kernel_rfl
  have c4 : Try.prog.cellsOf 4 = 1 := by kernel_rfl
  rcases Go.Deep.open_slice Try.underlying22 hf with ⟨hcs, _⟩ | ⟨a, len, cap, m, n, D, Pl, hcs, _, hl, _, hmm, _, hx⟩
  · left
    have hcs' : [Value.slice a0 len0 cap0] = [.slice none 0 0] := hcs
    injection hcs'
  · right
    have hcs' : [Value.slice a0 len0 cap0] = [.slice (some a) len cap] := hcs
    have e : Value.slice a0 len0 cap0 = .slice (some a) len cap := by injection hcs'
    rw [e] at hv
    obtain ⟨hnc, hsp, cs, t, fz, hb⟩ := slice_block Try.underlying22 hv
    obtain ⟨r, off, sp⟩ := a
    have hsp' : sp = none := hsp
    subst hsp'
    refine ⟨r, off, len, cap, cs.toList, e, hnc, ⟨⟨t, fz, by simpa using hb⟩, fun i hi => ?_⟩⟩
    have him : i < m := by rw [hmm]; split <;> omega
    obtain ⟨c, h1, h2⟩ := hx i him
    rw [c17] at h1
    obtain ⟨_, hcl, hcell⟩ := World.cells?_some h1
    obtain ⟨xs, k, _, _, _, hsz, hel⟩ := DataW.trod_struct Try.underlying32 h2
    have hsz' : xs.length = 4 := hsz
    have e0 := hel 0 _ rfl
    have e1 := hel 1 _ rfl
    rw [List.getElem?_eq_getElem (by omega)] at e0 e1
    have e0' : DataW.trod enc Try.prog W 0 (fun _ => true) true k 3 ((c.drop 0).take (Try.prog.cellsOf 3)) = some xs[0] := e0
    have e1' : DataW.trod enc Try.prog W 0 (fun _ => true) true k 4 ((c.drop 1).take (Try.prog.cellsOf 4)) = some xs[1] := e1
    rw [c3] at e0'
    rw [c4] at e1'
    obtain ⟨z, hz, _⟩ := DataW.trod_int Try.underlying3 e0'
    obtain ⟨b, hb2, _⟩ := DataW.trod_bool Try.underlying4 e1'
    have at_ : ∀ j, j < 17 → cs.toList[off + i * 17 + j]? = c[j]? := by
      intro j hj
      rw [← hcell j hj]
      have : ((⟨r, off, none⟩ : Addr).add (i * 17)).add j = ⟨r, off + i * 17 + j, none⟩ := by
        unfold Addr.add
        by_cases h1 : i * 17 = 0 <;> by_cases h2 : j = 0 <;> simp [h1, h2]
      rw [this]
      unfold World.cell?
      simp [hb]
    refine ⟨z, b, ?_⟩
    have g0 : c[0]? = some (.int .i64 z) := by
      have := congrArg (fun l : List Value => l[0]?) hz
      simpa using this
    have g1 : c[1]? = some (.bool b) := by
      have := congrArg (fun l : List Value => l[0]?) hb2
      simpa using this
    have q0 := at_ 0 (by decide)
    have q1 := at_ 1 (by decide)
    rw [g0] at q0
    rw [g1] at q1
    refine List.ext_getElem? fun j => ?_
    match j with
    | 0 => simpa using q0
    | 1 => simpa using q1
    | j + 2 => simp; omega
set_option maxRecDepth 100000 in
theorem lifted (os : Os) (started : os.Started) (H : Type) (enc : TypeId × Value → H) :
    ReturnsInHanded {} Try.checked os 3 .any (Rows.loneAnswersSpec.pre6 enc Try.prog Try.f3 Rows.loneAnswersRow.domain false) (Rows.loneAnswersSpec.post enc Try.prog Try.f3 false true false false) := by
  refine returnsInHanded_of_change_sized (C := Try.checked) own started (by kernel_rfl) Try.func3
    (ChangeSpec.witness6 (enc := enc) (C := Try.checked) false ⟨#[], #[.slice none 0 0, .int .i64 0, .agg #[.int .u32 0, .int .u32 0, .int .u32 0, .int .u32 0]], []⟩ 8 (by kernel_rfl) (by kernel_rfl) (by kernel_rfl) (by kernel_rfl)) ?_
  intro W base args ds gs before hval0 hW hcnd hsz0 _
  have hval : ∀ (j : Nat) t v, Try.f3.params[j]? = some t → args[j]? = some v → Value.okWide Try.prog W .any base t v := hval0
  have hW' := hW
  obtain ⟨p, q, hA0, hV, rfl, hfz, hnd⟩ := hW
  have hA : DataW.TrodAll enc Try.prog W 0 (fun _ => true) true Try.f3.params.toList args.toList ds p := hA0
  rw [Try.params3] at hA hval
  obtain ⟨v0, vs0, d0, ds0, p0, q0, hargs, rfl, rfl, h0, r0⟩ := trodAll_cons hA
  obtain ⟨v1, vs1, d1, ds1, p1, q1, rfl, rfl, rfl, h1, r1⟩ := trodAll_cons r0
  obtain ⟨v2, vs2, d2, ds2, p2, q2, rfl, rfl, rfl, h2, r2⟩ := trodAll_cons r1
  obtain ⟨rfl, rfl, rfl⟩ := trodAll_nil r2
  obtain rfl : args = #[v0, v1, v2] := by cases args; simp_all
  obtain ⟨rfl, rfl⟩ := trodVars_none hV
  have k0 := h0
  have lt0 : ∀ x ∈ p0, x.block < W.heap.size := by obtain ⟨m, hm⟩ := k0; exact DataW.trod_lt m _ _ _ hm
  have k1 := h1
  have lt1 : ∀ x ∈ p1, x.block < W.heap.size := by obtain ⟨m, hm⟩ := k1; exact DataW.trod_lt m _ _ _ hm
  have k2 := h2
  have lt2 : ∀ x ∈ p2, x.block < W.heap.size := by obtain ⟨m, hm⟩ := k2; exact DataW.trod_lt m _ _ _ hm
  obtain ⟨a1, rfl⟩ := okWide_int Try.underlying3 (hval 1 3 v1 rfl rfl)
  obtain ⟨x0, x1, x2, x3, rfl⟩ := open_line (hval 2 25 v2 rfl rfl) h2
  have run : Calls Try.prog 3 #[v0, .int .i64 a1, .agg #[.int .u32 x0, .int .u32 x1, .int .u32 x2, .int .u32 x3]] W fun e w' => e = .returned (.bool true) ∧ Below W.heap.size W w' := by
    rcases open_steps (hval 0 22 v0 rfl rfl) h0 with rfl | ⟨r, off, n, c, cs, rfl, hnc, hrow⟩
    · exact Ab.loneAnswers_nil a1 x0 x1 x2 x3 W
    · exact Ab.loneAnswers_some hrow hnc a1 x0 x1 x2 x3
  clear hA0 hval0 hsz0
  refine run.mono fun e W' ⟨he, bel⟩ => ?_
  subst he
  exact ⟨_, rfl, _, _, _, [], _, [], hW', trodAll_mk1 (shut_bool Try.underlying4 _), (trodAll_cons_mk (Below.trod laidOut (by kernel_rfl) (of_decide_eq_true (by kernel_rfl)) k0 bel lt0) (trodAll_cons_mk (Below.trod laidOut (by kernel_rfl) (of_decide_eq_true (by kernel_rfl)) k1 bel lt1) (trodAll_cons_mk (Below.trod laidOut (by kernel_rfl) (of_decide_eq_true (by kernel_rfl)) k2 bel lt2) trodAll_mk0))), rfl, bel.frame _, fun h => by cases h⟩
theorem over : Rows.loneAnswersRow.holds Try.pinned (OpenSpec.ofChange Rows.loneAnswersSpec) :=
  OpenClaim.holds_of_wide 3 Try.f3 rfl rfl rfl rfl rfl rfl rfl ⟨rfl, rfl, rfl, rfl, rfl⟩ rfl rfl rfl rfl rfl (by kernel_rfl) Try.func3 (by kernel_rfl)
    (of_decide_eq_true (by kernel_rfl)) (by unfold Func.isWrapper; first | (rw [if_pos (by decide +kernel)]; kernel_rfl) | (rw [if_neg (by decide +kernel)]; exact ⟨rfl, rfl⟩))
    (fun os started H enc _ => lifted os started H enc)
theorem proved : Rows.LoneAnswersSaid := over
#print axioms proved
end Go.Proofs.Ytecmjcfhbedelaa.loneAnswers
namespace Go.Proofs.Ytecmjcfhbedelaa
/-- The row, under a short name, for the claim. -/
theorem loneAnswers_holds : Rows.LoneAnswersSaid := loneAnswers.proved
end Go.Proofs.Ytecmjcfhbedelaa
