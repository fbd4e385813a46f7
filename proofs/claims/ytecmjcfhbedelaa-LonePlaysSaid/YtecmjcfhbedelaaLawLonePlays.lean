/- The row of LonePlays: for every line, hart and slice of steps, however long. -/
import Derived.Test.YtecmjcfhbedelaaRows
import Derived.Test.YtecmjcfhbedelaaLonePlays
import Derived.Deep.Slices
import Derived.WalkKit
import Derived.ProofKit
import Derived.OpenShut
import Derived.ShutString
import Derived.ChangeOld
import Derived.Below
import Derived.SizedLaws
namespace Go.Proofs.Ytecmjcfhbedelaa.lonePlays
open Go.ChangeShapes Go.WideShapes Go.ChangeAt Go.RowKit
open Go.ChangeMaps (open_string shut_string)
set_option linter.unusedVariables false
theorem own : ownKnob Try.prog.godebug = none := by kernel_rfl
theorem laidOut : laidOutB Try.prog = true := by kernel_rfl
theorem line_cells {H : Type} {enc : TypeId × Value → H} {W : World} {fuel : Nat} {cs : List Value} {x : DataW H × List MemPlace} (h : DataW.trod enc Try.prog W 0 (fun _ => true) true fuel 25 cs = some x) : ∃ x0 x1 x2 x3 : Int, cs = [.int .u32 x0, .int .u32 x1, .int .u32 x2, .int .u32 x3] := by
  obtain ⟨xs, m, _, _, hl, hx, he⟩ := DataW.trod_array Try.underlying25 h
  have c1 : Try.prog.cellsOf 23 = 1 := by kernel_rfl
  have c4 : Try.prog.cellsOf 25 = 4 := by kernel_rfl
  rw [c1] at he
  rw [c4] at hl
  obtain ⟨a, b, c, e, hc⟩ : ∃ a b c e, cs = [a, b, c, e] := by
    match h : cs, hl with
    | [a, b, c, e], _ => exact ⟨a, b, c, e, rfl⟩
  have key : ∀ (i : Nat) (z : Value), i < 4 → (cs.drop (i * 1)).take 1 = [z] → ∃ x : Int, z = .int .u32 x := by
    intro i z hi hz
    have h1 := he i hi
    rw [hz, List.getElem?_eq_getElem (by omega)] at h1
    obtain ⟨y, hy, _⟩ := DataW.trod_int Try.underlying23 h1
    have hy' : [z] = [Value.int .u32 y] := hy
    exact ⟨y, by injection hy'⟩
  obtain ⟨x0, rfl⟩ := key 0 a (by omega) (by rw [hc]; rfl)
  obtain ⟨x1, rfl⟩ := key 1 b (by omega) (by rw [hc]; rfl)
  obtain ⟨x2, rfl⟩ := key 2 c (by omega) (by rw [hc]; rfl)
  obtain ⟨x3, rfl⟩ := key 3 e (by omega) (by rw [hc]; rfl)
  exact ⟨x0, x1, x2, x3, hc⟩
theorem int_cell {H : Type} {enc : TypeId × Value → H} {W : World} {fuel : Nat} {z : Value} {x : DataW H × List MemPlace} (h : DataW.trod enc Try.prog W 0 (fun _ => true) true fuel 3 [z] = some x) : ∃ k : Int, z = .int .i64 k := by
  obtain ⟨k, hz, _⟩ := DataW.trod_int Try.underlying3 h
  exact ⟨k, by injection hz⟩
theorem bool_cell {H : Type} {enc : TypeId × Value → H} {W : World} {fuel : Nat} {z : Value} {x : DataW H × List MemPlace} (h : DataW.trod enc Try.prog W 0 (fun _ => true) true fuel 4 [z] = some x) : ∃ b : Bool, z = .bool b := by
  obtain ⟨b, hz, _⟩ := DataW.trod_bool Try.underlying4 h
  exact ⟨b, by injection hz⟩
theorem msg_cells {H : Type} {enc : TypeId × Value → H} {W : World} {fuel : Nat} {cs : List Value} {x : DataW H × List MemPlace} (h : DataW.trod enc Try.prog W 0 (fun _ => true) true fuel 30 cs = some x) :
    ∃ (mk ml mf mt m0 m1 m2 m3 : Int) (h d a : Bool), cs = [.int .i64 mk, .int .i64 ml, .int .i64 mf, .int .i64 mt, .int .u32 m0, .int .u32 m1, .int .u32 m2, .int .u32 m3, .bool h, .bool d, .bool a] := by
  obtain ⟨xs, k, _, _, hl, hsz, hel⟩ := DataW.trod_struct Try.underlying30 h
  have c11 : Try.prog.cellsOf 30 = 11 := by kernel_rfl
  have c3 : Try.prog.cellsOf 3 = 1 := by kernel_rfl
  have c4 : Try.prog.cellsOf 4 = 1 := by kernel_rfl
  have c25 : Try.prog.cellsOf 25 = 4 := by kernel_rfl
  rw [c11] at hl
  have hsz' : xs.length = 8 := hsz
  obtain ⟨z0, z1, z2, z3, z4, z5, z6, z7, z8, z9, z10, hc⟩ : ∃ z0 z1 z2 z3 z4 z5 z6 z7 z8 z9 z10, cs = [z0, z1, z2, z3, z4, z5, z6, z7, z8, z9, z10] := by
    match h : cs, hl with
    | [z0, z1, z2, z3, z4, z5, z6, z7, z8, z9, z10], _ => exact ⟨z0, z1, z2, z3, z4, z5, z6, z7, z8, z9, z10, rfl⟩
  have at_ : ∀ i, i < 8 → ∃ y, xs[i]? = some y := fun i hi => ⟨_, List.getElem?_eq_getElem (by omega)⟩
  have f : ∀ (i t o : Nat) (l : List Value), i < 8 → (∃ f, (#[{ name := "Kind", type := 3, offset := 0, embedded := false, tag := "", pkgPath := "", byteOffset := 0 },
      { name := "Line", type := 3, offset := 1, embedded := false, tag := "", pkgPath := "", byteOffset := 8 },
      { name := "From", type := 3, offset := 2, embedded := false, tag := "", pkgPath := "", byteOffset := 16 },
      { name := "To", type := 3, offset := 3, embedded := false, tag := "", pkgPath := "", byteOffset := 24 },
      { name := "Data", type := 25, offset := 4, embedded := false, tag := "", pkgPath := "", byteOffset := 32 },
      { name := "Has", type := 4, offset := 8, embedded := false, tag := "", pkgPath := "", byteOffset := 48 },
      { name := "Dirty", type := 4, offset := 9, embedded := false, tag := "", pkgPath := "", byteOffset := 49 },
      { name := "Alone", type := 4, offset := 10, embedded := false, tag := "", pkgPath := "", byteOffset := 50 }] : Array Field)[i]? = some f ∧ f.type = t ∧ f.offset = o) → (cs.drop o).take (Try.prog.cellsOf t) = l → ∃ y, DataW.trod enc Try.prog W 0 (fun _ => true) true k t l = some y := by
    intro i t o l hi ⟨f, hf, ht, ho⟩ hl
    obtain ⟨y, hy⟩ := at_ i hi
    have := hel i f hf
    rw [ht, ho, hl, hy] at this
    exact ⟨y, this⟩
  obtain ⟨_, g0⟩ := f 0 3 0 [z0] (by decide) ⟨_, rfl, rfl, rfl⟩ (by rw [c3, hc]; rfl)
  obtain ⟨_, g1⟩ := f 1 3 1 [z1] (by decide) ⟨_, rfl, rfl, rfl⟩ (by rw [c3, hc]; rfl)
  obtain ⟨_, g2⟩ := f 2 3 2 [z2] (by decide) ⟨_, rfl, rfl, rfl⟩ (by rw [c3, hc]; rfl)
  obtain ⟨_, g3⟩ := f 3 3 3 [z3] (by decide) ⟨_, rfl, rfl, rfl⟩ (by rw [c3, hc]; rfl)
  obtain ⟨_, g4⟩ := f 4 25 4 [z4, z5, z6, z7] (by decide) ⟨_, rfl, rfl, rfl⟩ (by rw [c25, hc]; rfl)
  obtain ⟨_, g5⟩ := f 5 4 8 [z8] (by decide) ⟨_, rfl, rfl, rfl⟩ (by rw [c4, hc]; rfl)
  obtain ⟨_, g6⟩ := f 6 4 9 [z9] (by decide) ⟨_, rfl, rfl, rfl⟩ (by rw [c4, hc]; rfl)
  obtain ⟨_, g7⟩ := f 7 4 10 [z10] (by decide) ⟨_, rfl, rfl, rfl⟩ (by rw [c4, hc]; rfl)
  obtain ⟨mk, rfl⟩ := int_cell g0
  obtain ⟨ml, rfl⟩ := int_cell g1
  obtain ⟨mf, rfl⟩ := int_cell g2
  obtain ⟨mt, rfl⟩ := int_cell g3
  obtain ⟨m0, m1, m2, m3, hm⟩ := line_cells g4
  obtain ⟨h, rfl⟩ := bool_cell g5
  obtain ⟨d, rfl⟩ := bool_cell g6
  obtain ⟨a, rfl⟩ := bool_cell g7
  simp only [List.cons.injEq, and_true] at hm
  obtain ⟨rfl, rfl, rfl, rfl⟩ := hm
  exact ⟨mk, ml, mf, mt, m0, m1, m2, m3, h, d, a, hc⟩
theorem step_cells {H : Type} {enc : TypeId × Value → H} {W : World} {fuel : Nat} {cs : List Value} {x : DataW H × List MemPlace} (h : DataW.trod enc Try.prog W 0 (fun _ => true) true fuel 32 cs = some x) :
    ∃ (k : Int) (wr : Bool) (e0 e1 e2 e3 mk ml mf mt m0 m1 m2 m3 : Int) (h d a : Bool), cs = (Ab.LP.dB k wr e0 e1 e2 e3 mk ml mf mt m0 m1 m2 m3 h d a).cells := by
  obtain ⟨xs, k, _, _, hl, hsz, hel⟩ := DataW.trod_struct Try.underlying32 h
  have c17 : Try.prog.cellsOf 32 = 17 := by kernel_rfl
  have c3 : Try.prog.cellsOf 3 = 1 := by kernel_rfl
  have c4 : Try.prog.cellsOf 4 = 1 := by kernel_rfl
  have c25 : Try.prog.cellsOf 25 = 4 := by kernel_rfl
  have c30 : Try.prog.cellsOf 30 = 11 := by kernel_rfl
  rw [c17] at hl
  have hsz' : xs.length = 4 := hsz
  obtain ⟨z0, z1, z2, z3, z4, z5, z6, z7, z8, z9, z10, z11, z12, z13, z14, z15, z16, hc⟩ : ∃ z0 z1 z2 z3 z4 z5 z6 z7 z8 z9 z10 z11 z12 z13 z14 z15 z16, cs = [z0, z1, z2, z3, z4, z5, z6, z7, z8, z9, z10, z11, z12, z13, z14, z15, z16] := by
    match h : cs, hl with
    | [z0, z1, z2, z3, z4, z5, z6, z7, z8, z9, z10, z11, z12, z13, z14, z15, z16], _ => exact ⟨z0, z1, z2, z3, z4, z5, z6, z7, z8, z9, z10, z11, z12, z13, z14, z15, z16, rfl⟩
  have at_ : ∀ i, i < 4 → ∃ y, xs[i]? = some y := fun i hi => ⟨_, List.getElem?_eq_getElem (by omega)⟩
  have f : ∀ (i t o : Nat) (l : List Value), i < 4 → (∃ f, (#[{ name := "Kind", type := 3, offset := 0, embedded := false, tag := "", pkgPath := "", byteOffset := 0 },
      { name := "Write", type := 4, offset := 1, embedded := false, tag := "", pkgPath := "", byteOffset := 8 },
      { name := "D", type := 25, offset := 2, embedded := false, tag := "", pkgPath := "", byteOffset := 12 },
      { name := "M", type := 30, offset := 6, embedded := false, tag := "", pkgPath := "", byteOffset := 32 }] : Array Field)[i]? = some f ∧ f.type = t ∧ f.offset = o) → (cs.drop o).take (Try.prog.cellsOf t) = l → ∃ y, DataW.trod enc Try.prog W 0 (fun _ => true) true k t l = some y := by
    intro i t o l hi ⟨f, hf, ht, ho⟩ hl
    obtain ⟨y, hy⟩ := at_ i hi
    have := hel i f hf
    rw [ht, ho, hl, hy] at this
    exact ⟨y, this⟩
  obtain ⟨_, g0⟩ := f 0 3 0 [z0] (by decide) ⟨_, rfl, rfl, rfl⟩ (by rw [c3, hc]; rfl)
  obtain ⟨_, g1⟩ := f 1 4 1 [z1] (by decide) ⟨_, rfl, rfl, rfl⟩ (by rw [c4, hc]; rfl)
  obtain ⟨_, g2⟩ := f 2 25 2 [z2, z3, z4, z5] (by decide) ⟨_, rfl, rfl, rfl⟩ (by rw [c25, hc]; rfl)
  obtain ⟨_, g3⟩ := f 3 30 6 [z6, z7, z8, z9, z10, z11, z12, z13, z14, z15, z16] (by decide) ⟨_, rfl, rfl, rfl⟩ (by rw [c30, hc]; rfl)
  obtain ⟨kk, rfl⟩ := int_cell g0
  obtain ⟨wr, rfl⟩ := bool_cell g1
  obtain ⟨e0, e1, e2, e3, he⟩ := line_cells g2
  obtain ⟨mk, ml, mf, mt, m0, m1, m2, m3, h, d, a, hm⟩ := msg_cells g3
  simp only [List.cons.injEq, and_true] at he hm
  obtain ⟨rfl, rfl, rfl, rfl⟩ := he
  obtain ⟨rfl, rfl, rfl, rfl, rfl, rfl, rfl, rfl, rfl, rfl, rfl⟩ := hm
  exact ⟨kk, wr, e0, e1, e2, e3, mk, ml, mf, mt, m0, m1, m2, m3, h, d, a, hc⟩
/-- A slice that is handed in lies in a block that is there. -/
theorem slice_block {P : Program} {W : World} {base : Nat} {t e : TypeId} {a : Addr} {len cap : Nat} (ht : P.underlying t = some (.slice e)) (h : Value.okWide P W .any base t (.slice (some a) len cap)) :
    len ≤ cap ∧ a.spot = none ∧ ∃ cs t fz, W.heap[a.block]? = some (.cells cs t fz) := by
  simp only [Value.okWide, ht, Cell.okWide, Cell.ok] at h
  obtain ⟨h1, _, _, h2, row, cells, h3, _⟩ := h
  refine ⟨h1, h2, ?_⟩
  unfold World.shape? at h3
  split at h3
  · rename_i c t fz hc; exact ⟨c, t, fz, hc⟩
  · cases h3
/-- A slice of steps that is handed in: none, or a row. -/
theorem open_steps {H : Type} {enc : TypeId × Value → H} {W : World} {base : Nat} {v : Value} {d : DataW H} {ps : List MemPlace}
    (hv : Value.okWide Try.prog W .any base 22 v) (h : DataW.Trod enc Try.prog W 0 (fun _ => true) true 22 v d ps) :
    v = .slice none 0 0 ∨ ∃ (r off n c : Nat) (cs : List Value), v = .slice (some ⟨r, off, none⟩) n c ∧ n ≤ c ∧ Ab.LP.Row W r off n cs := by
  obtain ⟨a0, len0, cap0, rfl⟩ := okWide_slice Try.underlying22 hv
  obtain ⟨fuel, hf⟩ := h
  have c17 : Try.prog.cellsOf 32 = 17 := by kernel_rfl
  rcases Go.Deep.open_slice Try.underlying22 hf with ⟨hcs, _⟩ | ⟨a, len, cap, m, n, D, Pl, hcs, _, hl, _, hmm, _, hx⟩
  · left
    have hcs' : [Value.slice a0 len0 cap0] = [.slice none 0 0] := hcs
    injection hcs'
  · right
    have hcs' : [Value.slice a0 len0 cap0] = [.slice (some a) len cap] := hcs
    have e : Value.slice a0 len0 cap0 = .slice (some a) len cap := by injection hcs'
    rw [e] at hv
    obtain ⟨hnc, hsp, cs, t, fz, hb⟩ := slice_block Try.underlying22 hv
    obtain ⟨r, off, sp⟩ := a
    have hsp' : sp = none := hsp
    subst hsp'
    refine ⟨r, off, len, cap, cs.toList, e, hnc, ⟨⟨t, fz, by simpa using hb⟩, fun i hi => ?_⟩⟩
    have him : i < m := by rw [hmm]; split <;> omega
    obtain ⟨c, h1, h2⟩ := hx i him
    rw [c17] at h1
    obtain ⟨_, hcl, hcell⟩ := World.cells?_some h1
    obtain ⟨kk, wr, e0, e1, e2, e3, mk, ml, mf, mt, m0, m1, m2, m3, hh, d, aa, hcc⟩ := step_cells h2
    have at_ : ∀ j, j < 17 → cs.toList[off + i * 17 + j]? = c[j]? := by
      intro j hj
      rw [← hcell j hj]
      have : ((⟨r, off, none⟩ : Addr).add (i * 17)).add j = ⟨r, off + i * 17 + j, none⟩ := by
        unfold Addr.add
        by_cases h1 : i * 17 = 0 <;> by_cases h2 : j = 0 <;> simp [h1, h2]
      rw [this]
      unfold World.cell?
      simp [hb]
    refine ⟨kk, wr, e0, e1, e2, e3, mk, ml, mf, mt, m0, m1, m2, m3, hh, d, aa, ?_⟩
    rw [← hcc]
    refine List.ext_getElem? fun j => ?_
    rcases Nat.lt_or_ge j 17 with hj | hj
    · rw [List.getElem?_take_of_lt hj, List.getElem?_drop, at_ j hj]
    · rw [List.getElem?_eq_none (by simp; omega), List.getElem?_eq_none (by omega)]
set_option maxRecDepth 100000 in
theorem lifted (os : Os) (started : os.Started) (H : Type) (enc : TypeId × Value → H) :
    ReturnsInHanded {} Try.checked os 9 .any (Rows.lonePlaysSpec.pre6 enc Try.prog Try.f9 Rows.lonePlaysRow.domain false) (Rows.lonePlaysSpec.post enc Try.prog Try.f9 false true false false) := by
  refine returnsInHanded_of_change_sized (C := Try.checked) own started (by kernel_rfl) Try.func9
    (ChangeSpec.witness6 (enc := enc) (C := Try.checked) false ⟨#[], #[.int .i64 0, .int .i64 0, .slice none 0 0], []⟩ 8 (by kernel_rfl) (by kernel_rfl) (by kernel_rfl) (by kernel_rfl)) ?_
  intro W base args ds gs before hval0 hW hcnd hsz0 _
  have hval : ∀ (j : Nat) t v, Try.f9.params[j]? = some t → args[j]? = some v → Value.okWide Try.prog W .any base t v := hval0
  have hW' := hW
  obtain ⟨p, q, hA0, hV, rfl, hfz, hnd⟩ := hW
  have hA : DataW.TrodAll enc Try.prog W 0 (fun _ => true) true Try.f9.params.toList args.toList ds p := hA0
  rw [Try.params9] at hA hval
  obtain ⟨v0, vs0, d0, ds0, p0, q0, hargs, rfl, rfl, h0, r0⟩ := trodAll_cons hA
  obtain ⟨v1, vs1, d1, ds1, p1, q1, rfl, rfl, rfl, h1, r1⟩ := trodAll_cons r0
  obtain ⟨v2, vs2, d2, ds2, p2, q2, rfl, rfl, rfl, h2, r2⟩ := trodAll_cons r1
  obtain ⟨rfl, rfl, rfl⟩ := trodAll_nil r2
  obtain rfl : args = #[v0, v1, v2] := by cases args; simp_all
  obtain ⟨rfl, rfl⟩ := trodVars_none hV
  have k0 := h0
  have lt0 : ∀ x ∈ p0, x.block < W.heap.size := by obtain ⟨m, hm⟩ := k0; exact DataW.trod_lt m _ _ _ hm
  have k1 := h1
  have lt1 : ∀ x ∈ p1, x.block < W.heap.size := by obtain ⟨m, hm⟩ := k1; exact DataW.trod_lt m _ _ _ hm
  have k2 := h2
  have lt2 : ∀ x ∈ p2, x.block < W.heap.size := by obtain ⟨m, hm⟩ := k2; exact DataW.trod_lt m _ _ _ hm
  obtain ⟨a0, rfl⟩ := okWide_int Try.underlying3 (hval 0 3 v0 rfl rfl)
  obtain ⟨a1, rfl⟩ := okWide_int Try.underlying3 (hval 1 3 v1 rfl rfl)
  have run : Calls Try.prog 9 #[.int .i64 a0, .int .i64 a1, v2] W fun e w' => e = .returned (.bool true) ∧ Below W.heap.size W w' := by
    rcases open_steps (hval 2 22 v2 rfl rfl) h2 with rfl | ⟨r, off, n, c, cs, rfl, hnc, hrow⟩
    · exact Ab.LP.lonePlays_nil a0 a1 W
    · exact Ab.LP.lonePlays_some hrow hnc a0 a1
  clear hA0 hval0 hsz0
  refine run.mono fun e W' ⟨he, bel⟩ => ?_
  subst he
  exact ⟨_, rfl, _, _, _, [], _, [], hW', trodAll_mk1 (shut_bool Try.underlying4 _), (trodAll_cons_mk (Below.trod laidOut (by kernel_rfl) (of_decide_eq_true (by kernel_rfl)) k0 bel lt0) (trodAll_cons_mk (Below.trod laidOut (by kernel_rfl) (of_decide_eq_true (by kernel_rfl)) k1 bel lt1) (trodAll_cons_mk (Below.trod laidOut (by kernel_rfl) (of_decide_eq_true (by kernel_rfl)) k2 bel lt2) trodAll_mk0))), rfl, bel.frame _, fun h => by cases h⟩
theorem over : Rows.lonePlaysRow.holds Try.pinned (OpenSpec.ofChange Rows.lonePlaysSpec) :=
  OpenClaim.holds_of_wide 9 Try.f9 rfl rfl rfl rfl rfl rfl rfl ⟨rfl, rfl, rfl, rfl, rfl⟩ rfl rfl rfl rfl rfl (by kernel_rfl) Try.func9 (by kernel_rfl)
    (of_decide_eq_true (by kernel_rfl)) (by unfold Func.isWrapper; first | (rw [if_pos (by decide +kernel)]; kernel_rfl) | (rw [if_neg (by decide +kernel)]; exact ⟨rfl, rfl⟩))
    (fun os started H enc _ => lifted os started H enc)
theorem proved : Rows.LonePlaysSaid := over
#print axioms proved
end Go.Proofs.Ytecmjcfhbedelaa.lonePlays
namespace Go.Proofs.Ytecmjcfhbedelaa
/-- The row, under a short name, for the claim. -/
theorem lonePlays_holds : Rows.LonePlaysSaid := lonePlays.proved
end Go.Proofs.Ytecmjcfhbedelaa
