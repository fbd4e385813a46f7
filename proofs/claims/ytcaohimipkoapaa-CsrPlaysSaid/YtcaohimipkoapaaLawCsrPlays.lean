/- The row of CsrPlays: for every hart and slice of steps, however long. -/
import Derived.Test.YtcaohimipkoapaaRows
import Derived.Test.YtcaohimipkoapaaCsrPlays
import Derived.Deep.Slices
import Derived.WalkKit
import Derived.ProofKit
import Derived.OpenShut
import Derived.ShutString
import Derived.ChangeOld
import Derived.Below
import Derived.SizedLaws
namespace Go.Proofs.Ytcaohimipkoapaa.csrPlays
open Go.ChangeShapes Go.WideShapes Go.ChangeAt Go.RowKit
open Go.ChangeMaps (open_string shut_string)
set_option linter.unusedVariables false
theorem own : ownKnob Try.prog.godebug = none := by kernel_rfl
theorem laidOut : laidOutB Try.prog = true := by kernel_rfl
theorem int_cell {H : Type} {enc : TypeId × Value → H} {W : World} {fuel : Nat} {z : Value} {x : DataW H × List MemPlace} (h : DataW.trod enc Try.prog W 0 (fun _ => true) true fuel 3 [z] = some x) : ∃ k : Int, z = .int .i64 k := by
  obtain ⟨k, hz, _⟩ := DataW.trod_int Try.underlying3 h
  exact ⟨k, by injection hz⟩
theorem bool_cell {H : Type} {enc : TypeId × Value → H} {W : World} {fuel : Nat} {z : Value} {x : DataW H × List MemPlace} (h : DataW.trod enc Try.prog W 0 (fun _ => true) true fuel 4 [z] = some x) : ∃ b : Bool, z = .bool b := by
  obtain ⟨b, hz, _⟩ := DataW.trod_bool Try.underlying4 h
  exact ⟨b, by injection hz⟩
theorem word_cell {H : Type} {enc : TypeId × Value → H} {W : World} {fuel : Nat} {z : Value} {x : DataW H × List MemPlace} (h : DataW.trod enc Try.prog W 0 (fun _ => true) true fuel 22 [z] = some x) : ∃ k : Int, z = .int .u32 k := by
  obtain ⟨k, hz, _⟩ := DataW.trod_int Try.underlying22 h
  exact ⟨k, by injection hz⟩
theorem step_cells {H : Type} {enc : TypeId × Value → H} {W : World} {fuel : Nat} {cs : List Value} {x : DataW H × List MemPlace} (h : DataW.trod enc Try.prog W 0 (fun _ => true) true fuel 59 cs = some x) :
    ∃ (k nn vv ww pc : Int), cs = (Ab.CP.dB k nn vv ww pc).cells := by
  obtain ⟨xs, k, _, _, hl, hsz, hel⟩ := DataW.trod_struct Try.underlying59 h
  have c5 : Try.prog.cellsOf 59 = 5 := by kernel_rfl
  have c3 : Try.prog.cellsOf 3 = 1 := by kernel_rfl
  have c22 : Try.prog.cellsOf 22 = 1 := by kernel_rfl
  rw [c5] at hl
  have hsz' : xs.length = 5 := hsz
  obtain ⟨z0, z1, z2, z3, z4, hc⟩ : ∃ z0 z1 z2 z3 z4, cs = [z0, z1, z2, z3, z4] := by
    match h : cs, hl with
    | [z0, z1, z2, z3, z4], _ => exact ⟨z0, z1, z2, z3, z4, rfl⟩
  have at_ : ∀ i, i < 5 → ∃ y, xs[i]? = some y := fun i hi => ⟨_, List.getElem?_eq_getElem (by omega)⟩
  have f : ∀ (i t o : Nat) (l : List Value), i < 5 → (∃ f, (#[{ name := "Kind", type := 3, offset := 0, embedded := false, tag := "", pkgPath := "", byteOffset := 0 },
      { name := "N", type := 3, offset := 1, embedded := false, tag := "", pkgPath := "", byteOffset := 8 },
      { name := "V", type := 22, offset := 2, embedded := false, tag := "", pkgPath := "", byteOffset := 16 },
      { name := "W", type := 22, offset := 3, embedded := false, tag := "", pkgPath := "", byteOffset := 20 },
      { name := "PC", type := 22, offset := 4, embedded := false, tag := "", pkgPath := "", byteOffset := 24 }] : Array Field)[i]? = some f ∧ f.type = t ∧ f.offset = o) → (cs.drop o).take (Try.prog.cellsOf t) = l → ∃ y, DataW.trod enc Try.prog W 0 (fun _ => true) true k t l = some y := by
    intro i t o l hi ⟨f, hf, ht, ho⟩ hl
    obtain ⟨y, hy⟩ := at_ i hi
    have := hel i f hf
    rw [ht, ho, hl, hy] at this
    exact ⟨y, this⟩
  obtain ⟨_, g0⟩ := f 0 3 0 [z0] (by decide) ⟨_, rfl, rfl, rfl⟩ (by rw [c3, hc]; rfl)
  obtain ⟨_, g1⟩ := f 1 3 1 [z1] (by decide) ⟨_, rfl, rfl, rfl⟩ (by rw [c3, hc]; rfl)
  obtain ⟨_, g2⟩ := f 2 22 2 [z2] (by decide) ⟨_, rfl, rfl, rfl⟩ (by rw [c22, hc]; rfl)
  obtain ⟨_, g3⟩ := f 3 22 3 [z3] (by decide) ⟨_, rfl, rfl, rfl⟩ (by rw [c22, hc]; rfl)
  obtain ⟨_, g4⟩ := f 4 22 4 [z4] (by decide) ⟨_, rfl, rfl, rfl⟩ (by rw [c22, hc]; rfl)
  obtain ⟨k0, rfl⟩ := int_cell g0
  obtain ⟨k1, rfl⟩ := int_cell g1
  obtain ⟨k2, rfl⟩ := word_cell g2
  obtain ⟨k3, rfl⟩ := word_cell g3
  obtain ⟨k4, rfl⟩ := word_cell g4
  exact ⟨k0, k1, k2, k3, k4, hc⟩
/-- A slice that is handed in lies in a block that is there. -/
theorem slice_block {P : Program} {W : World} {base : Nat} {t e : TypeId} {a : Addr} {len cap : Nat} (ht : P.underlying t = some (.slice e)) (h : Value.okWide P W .any base t (.slice (some a) len cap)) :
    len ≤ cap ∧ a.spot = none ∧ ∃ cs t fz, W.heap[a.block]? = some (.cells cs t fz) := by
  simp only [Value.okWide, ht, Cell.okWide, Cell.ok] at h
  obtain ⟨h1, _, _, h2, row, cells, h3, _⟩ := h
  refine ⟨h1, h2, ?_⟩
  unfold World.shape? at h3
  split at h3
  · rename_i c t fz hc; exact ⟨c, t, fz, hc⟩
  · cases h3
/-- A slice of steps that is handed in: none, or a row. -/
theorem open_steps {H : Type} {enc : TypeId × Value → H} {W : World} {base : Nat} {v : Value} {d : DataW H} {ps : List MemPlace}
    (hv : Value.okWide Try.prog W .any base 53 v) (h : DataW.Trod enc Try.prog W 0 (fun _ => true) true 53 v d ps) :
    v = .slice none 0 0 ∨ ∃ (r off n c : Nat) (cs : List Value), v = .slice (some ⟨r, off, none⟩) n c ∧ n ≤ c ∧ Ab.CP.Row W r off n cs := by
  obtain ⟨a0, len0, cap0, rfl⟩ := okWide_slice Try.underlying53 hv
  obtain ⟨fuel, hf⟩ := h
  have c5 : Try.prog.cellsOf 59 = 5 := by kernel_rfl
  rcases Go.Deep.open_slice Try.underlying53 hf with ⟨hcs, _⟩ | ⟨a, len, cap, m, n, D, Pl, hcs, _, hl, _, hmm, _, hx⟩
  · left
    have hcs' : [Value.slice a0 len0 cap0] = [.slice none 0 0] := hcs
    injection hcs'
  · right
    have hcs' : [Value.slice a0 len0 cap0] = [.slice (some a) len cap] := hcs
    have e : Value.slice a0 len0 cap0 = .slice (some a) len cap := by injection hcs'
    rw [e] at hv
    obtain ⟨hnc, hsp, cs, t, fz, hb⟩ := slice_block Try.underlying53 hv
    obtain ⟨r, off, sp⟩ := a
    have hsp' : sp = none := hsp
    subst hsp'
    refine ⟨r, off, len, cap, cs.toList, e, hnc, ⟨⟨t, fz, by simpa using hb⟩, fun i hi => ?_⟩⟩
    have him : i < m := by rw [hmm]; split <;> omega
    obtain ⟨c, h1, h2⟩ := hx i him
    rw [c5] at h1
    obtain ⟨_, hcl, hcell⟩ := World.cells?_some h1
    obtain ⟨kk, nn, vv, ww, pc, hcc⟩ := step_cells h2
    have at_ : ∀ j, j < 5 → cs.toList[off + i * 5 + j]? = c[j]? := by
      intro j hj
      rw [← hcell j hj]
      have : ((⟨r, off, none⟩ : Addr).add (i * 5)).add j = ⟨r, off + i * 5 + j, none⟩ := by
        unfold Addr.add
        by_cases h1 : i * 5 = 0 <;> by_cases h2 : j = 0 <;> simp [h1, h2]
      rw [this]
      unfold World.cell?
      simp [hb]
    refine ⟨kk, nn, vv, ww, pc, ?_⟩
    rw [← hcc]
    refine List.ext_getElem? fun j => ?_
    rcases Nat.lt_or_ge j 5 with hj | hj
    · rw [List.getElem?_take_of_lt hj, List.getElem?_drop, at_ j hj]
    · rw [List.getElem?_eq_none (by simp; omega), List.getElem?_eq_none (by omega)]
set_option maxRecDepth 100000 in
theorem lifted (os : Os) (started : os.Started) (H : Type) (enc : TypeId × Value → H) :
    ReturnsInHanded {} Try.checked os 12 .any (Rows.csrPlaysSpec.pre6 enc Try.prog Try.f12 Rows.csrPlaysRow.domain false) (Rows.csrPlaysSpec.post enc Try.prog Try.f12 false true false false) := by
  refine returnsInHanded_of_change_sized (C := Try.checked) own started (by kernel_rfl) Try.func12
    (ChangeSpec.witness6 (enc := enc) (C := Try.checked) false ⟨#[], #[.int .i64 0, .slice none 0 0], []⟩ 8 (by kernel_rfl) (by kernel_rfl) (by kernel_rfl) (by kernel_rfl)) ?_
  intro W base args ds gs before hval0 hW hcnd hsz0 _
  have hval : ∀ (j : Nat) t v, Try.f12.params[j]? = some t → args[j]? = some v → Value.okWide Try.prog W .any base t v := hval0
  have hW' := hW
  obtain ⟨p, q, hA0, hV, rfl, hfz, hnd⟩ := hW
  have hA : DataW.TrodAll enc Try.prog W 0 (fun _ => true) true Try.f12.params.toList args.toList ds p := hA0
  rw [Try.params12] at hA hval
  obtain ⟨v0, vs0, d0, ds0, p0, q0, hargs, rfl, rfl, h0, r0⟩ := trodAll_cons hA
  obtain ⟨v1, vs1, d1, ds1, p1, q1, rfl, rfl, rfl, h1, r1⟩ := trodAll_cons r0
  obtain ⟨rfl, rfl, rfl⟩ := trodAll_nil r1
  obtain rfl : args = #[v0, v1] := by cases args; simp_all
  obtain ⟨rfl, rfl⟩ := trodVars_none hV
  have k0 := h0
  have lt0 : ∀ x ∈ p0, x.block < W.heap.size := by obtain ⟨m, hm⟩ := k0; exact DataW.trod_lt m _ _ _ hm
  have k1 := h1
  have lt1 : ∀ x ∈ p1, x.block < W.heap.size := by obtain ⟨m, hm⟩ := k1; exact DataW.trod_lt m _ _ _ hm
  obtain ⟨a0, rfl⟩ := okWide_int Try.underlying3 (hval 0 3 v0 rfl rfl)
  have run : Calls Try.prog 12 #[.int .i64 a0, v1] W fun e w' => e = .returned (.bool true) ∧ Below W.heap.size W w' := by
    rcases open_steps (hval 1 53 v1 rfl rfl) h1 with rfl | ⟨r, off, n, c, cs, rfl, hnc, hrow⟩
    · exact Ab.CP.csrPlays_nil a0 W
    · exact Ab.CP.csrPlays_some hrow hnc a0
  clear hA0 hval0 hsz0
  refine run.mono fun e W' ⟨he, bel⟩ => ?_
  subst he
  exact ⟨_, rfl, _, _, _, [], _, [], hW', trodAll_mk1 (shut_bool Try.underlying4 _), (trodAll_cons_mk (Below.trod laidOut (by kernel_rfl) (of_decide_eq_true (by kernel_rfl)) k0 bel lt0) (trodAll_cons_mk (Below.trod laidOut (by kernel_rfl) (of_decide_eq_true (by kernel_rfl)) k1 bel lt1) trodAll_mk0)), rfl, bel.frame _, fun h => by cases h⟩
theorem over : Rows.csrPlaysRow.holds Try.pinned (OpenSpec.ofChange Rows.csrPlaysSpec) :=
  OpenClaim.holds_of_wide 12 Try.f12 rfl rfl rfl rfl rfl rfl rfl ⟨rfl, rfl, rfl, rfl, rfl⟩ rfl rfl rfl rfl rfl (by kernel_rfl) Try.func12 (by kernel_rfl)
    (of_decide_eq_true (by kernel_rfl)) (by unfold Func.isWrapper; first | (rw [if_pos (by decide +kernel)]; kernel_rfl) | (rw [if_neg (by decide +kernel)]; exact ⟨rfl, rfl⟩))
    (fun os started H enc _ => lifted os started H enc)
theorem proved : Rows.CsrPlaysSaid := over
#print axioms proved
end Go.Proofs.Ytcaohimipkoapaa.csrPlays
namespace Go.Proofs.Ytcaohimipkoapaa
/-- The row, under a short name, for the claim. -/
theorem csrPlays_holds : Rows.CsrPlaysSaid := csrPlays.proved
end Go.Proofs.Ytcaohimipkoapaa
