/- The row of DepGrows: for every slice of items, however long, and number. -/
import Derived.Test.YtbcikaoklpekhaaRows
import Derived.Test.YtbcikaoklpekhaaDepGrows
import Derived.Deep.Slices
import Derived.ChangeSlices
import Derived.WalkKit
import Derived.ProofKit
import Derived.OpenShut
import Derived.ShutString
import Derived.ChangeOld
import Derived.Below
import Derived.SizedLaws
namespace Go.Proofs.Ytbcikaoklpekhaa.depGrows
open Go.ChangeShapes Go.WideShapes Go.ChangeAt Go.RowKit
open Go.ChangeMaps (open_string shut_string)
set_option linter.unusedVariables false
set_option maxRecDepth 100000
theorem own : ownKnob Try.prog.godebug = none := by kernel_rfl
theorem laidOut : laidOutB Try.prog = true := by kernel_rfl
theorem bool_cell {H : Type} {enc : TypeId × Value → H} {W : World} {fuel : Nat} {z : Value} {x : DataW H × List MemPlace} (h : DataW.trod enc Try.prog W 0 (fun _ => true) true fuel 4 [z] = some x) : ∃ b : Bool, z = .bool b := by
  obtain ⟨b, hz, _⟩ := DataW.trod_bool Try.underlying4 h
  exact ⟨b, by injection hz⟩
theorem word_cell {H : Type} {enc : TypeId × Value → H} {W : World} {fuel : Nat} {z : Value} {x : DataW H × List MemPlace} (h : DataW.trod enc Try.prog W 0 (fun _ => true) true fuel 29 [z] = some x) : ∃ k : Int, z = .int .u32 k := by
  obtain ⟨k, hz, _⟩ := DataW.trod_int Try.underlying29 h
  exact ⟨k, by injection hz⟩
theorem item_cells {H : Type} {enc : TypeId × Value → H} {W : World} {fuel : Nat} {cs : List Value} {x : DataW H × List MemPlace} (h : DataW.trod enc Try.prog W 0 (fun _ => true) true fuel 37 cs = some x) :
    ∃ i : Ab.Item, cs = Ab.itemC i := by
  obtain ⟨xs, k, _, _, hl, hsz, hel⟩ := DataW.trod_struct Try.underlying37 h
  have c6 : Try.prog.cellsOf 37 = 6 := by kernel_rfl
  have c29 : Try.prog.cellsOf 29 = 1 := by kernel_rfl
  have c4 : Try.prog.cellsOf 4 = 1 := by kernel_rfl
  rw [c6] at hl
  have hsz' : xs.length = 6 := hsz
  obtain ⟨z0, z1, z2, z3, z4, z5, hc⟩ : ∃ z0 z1 z2 z3 z4 z5, cs = [z0, z1, z2, z3, z4, z5] := by
    match h : cs, hl with
    | [z0, z1, z2, z3, z4, z5], _ => exact ⟨z0, z1, z2, z3, z4, z5, rfl⟩
  have at_ : ∀ i, i < 6 → ∃ y, xs[i]? = some y := fun i hi => ⟨_, List.getElem?_eq_getElem (by omega)⟩
  have f : ∀ (i t o : Nat) (l : List Value), i < 6 → (∃ f, (#[{ name := "Word", type := 29, offset := 0, embedded := false, tag := "", pkgPath := "", byteOffset := 0 },
      { name := "PA", type := 29, offset := 1, embedded := false, tag := "", pkgPath := "", byteOffset := 4 },
      { name := "Load", type := 29, offset := 2, embedded := false, tag := "", pkgPath := "", byteOffset := 8 },
      { name := "Value", type := 29, offset := 3, embedded := false, tag := "", pkgPath := "", byteOffset := 12 },
      { name := "Done", type := 4, offset := 4, embedded := false, tag := "", pkgPath := "", byteOffset := 16 },
      { name := "Trap", type := 4, offset := 5, embedded := false, tag := "", pkgPath := "", byteOffset := 17 }] : Array Field)[i]? = some f ∧ f.type = t ∧ f.offset = o) → (cs.drop o).take (Try.prog.cellsOf t) = l → ∃ y, DataW.trod enc Try.prog W 0 (fun _ => true) true k t l = some y := by
    intro i t o l hi ⟨f, hf, ht, ho⟩ hl
    obtain ⟨y, hy⟩ := at_ i hi
    have := hel i f hf
    rw [ht, ho, hl, hy] at this
    exact ⟨y, this⟩
  obtain ⟨_, g0⟩ := f 0 29 0 [z0] (by decide) ⟨_, rfl, rfl, rfl⟩ (by rw [c29, hc]; rfl)
  obtain ⟨_, g1⟩ := f 1 29 1 [z1] (by decide) ⟨_, rfl, rfl, rfl⟩ (by rw [c29, hc]; rfl)
  obtain ⟨_, g2⟩ := f 2 29 2 [z2] (by decide) ⟨_, rfl, rfl, rfl⟩ (by rw [c29, hc]; rfl)
  obtain ⟨_, g3⟩ := f 3 29 3 [z3] (by decide) ⟨_, rfl, rfl, rfl⟩ (by rw [c29, hc]; rfl)
  obtain ⟨_, g4⟩ := f 4 4 4 [z4] (by decide) ⟨_, rfl, rfl, rfl⟩ (by rw [c4, hc]; rfl)
  obtain ⟨_, g5⟩ := f 5 4 5 [z5] (by decide) ⟨_, rfl, rfl, rfl⟩ (by rw [c4, hc]; rfl)
  obtain ⟨k0, rfl⟩ := word_cell g0
  obtain ⟨k1, rfl⟩ := word_cell g1
  obtain ⟨k2, rfl⟩ := word_cell g2
  obtain ⟨k3, rfl⟩ := word_cell g3
  obtain ⟨k4, rfl⟩ := bool_cell g4
  obtain ⟨k5, rfl⟩ := bool_cell g5
  exact ⟨⟨k0, k1, k2, k3, k4, k5⟩, hc⟩
/-- A slice that is handed in lies in a block that is there. -/
theorem slice_block {P : Program} {W : World} {base : Nat} {t e : TypeId} {a : Addr} {len cap : Nat} (ht : P.underlying t = some (.slice e)) (h : Value.okWide P W .any base t (.slice (some a) len cap)) :
    len ≤ cap ∧ a.spot = none ∧ ∃ cs t fz, W.heap[a.block]? = some (.cells cs t fz) := by
  simp only [Value.okWide, ht, Cell.okWide, Cell.ok] at h
  obtain ⟨h1, _, _, h2, row, cells, h3, _⟩ := h
  refine ⟨h1, h2, ?_⟩
  unfold World.shape? at h3
  split at h3
  · rename_i c t fz hc; exact ⟨c, t, fz, hc⟩
  · cases h3
theorem items_row (cs : List Value) (off : Nat) (X : Nat → Ab.Item) : ∀ n, (∀ i, i < n → (cs.drop (off + i * 6)).take 6 = Ab.itemC (X i)) → (cs.drop off).take (n * 6) = Ab.itemsC ((List.range n).map X) := by
  intro n
  induction n with
  | zero => intro _; simp [Ab.itemsC]
  | succ n ih =>
    intro h
    rw [Nat.succ_mul, List.take_add, List.drop_drop, ih (fun i hi => h i (by omega)), h n (by omega), List.range_succ, List.map_append, Ab.itemsC, Ab.itemsC, List.flatMap_append]
    simp
/-- A slice of items that is handed in: none, or a row. -/
theorem open_items {H : Type} {enc : TypeId × Value → H} {W : World} {base : Nat} {v : Value} {d : DataW H} {ps : List MemPlace}
    (hv : Value.okWide Try.prog W .any base 22 v) (h : DataW.Trod enc Try.prog W 0 (fun _ => true) true 22 v d ps) (hz : W.noneFrozen ps) :
    v = .slice none 0 0 ∨ (∃ a c, v = .slice (some a) 0 c) ∨ ∃ (r off c : Nat) (l : List Ab.Item), v = .slice (some ⟨r, off, none⟩) l.length c ∧ l.length ≤ c ∧ Ab.Froz W r off (Ab.itemsC l) := by
  obtain ⟨a0, len0, cap0, rfl⟩ := okWide_slice Try.underlying22 hv
  obtain ⟨fuel, hf⟩ := h
  have c6 : Try.prog.cellsOf 37 = 6 := by kernel_rfl
  rcases Go.Deep.open_slice Try.underlying22 hf with ⟨hcs, _⟩ | ⟨a, len, cap, m, n, D, Pl, hcs, _, hl, _, hmm, hps, hx⟩
  · left
    have hcs' : [Value.slice a0 len0 cap0] = [.slice none 0 0] := hcs
    injection hcs'
  · right
    have hcs' : [Value.slice a0 len0 cap0] = [.slice (some a) len cap] := hcs
    have e : Value.slice a0 len0 cap0 = .slice (some a) len cap := by injection hcs'
    rw [e] at hv
    obtain ⟨hnc, hsp, cs, t, fz, hb⟩ := slice_block Try.underlying22 hv
    obtain ⟨r, off, sp⟩ := a
    have hsp' : sp = none := hsp
    subst hsp'
    have hmc : m = cap := by rw [hmm]; simp
    subst hmc
    by_cases hlen : len = 0
    · subst hlen
      exact .inl ⟨_, _, e⟩
    · have hitem : ∀ i, ∃ x : Ab.Item, i < len → (cs.toList.drop (off + i * 6)).take 6 = Ab.itemC x ∧ off + i * 6 + 6 ≤ cs.toList.length := fun i => by
        by_cases hi : i < len
        · obtain ⟨c, h1, h2⟩ := hx i (by omega)
          rw [c6] at h1
          obtain ⟨_, hcl, hcell⟩ := World.cells?_some h1
          obtain ⟨x, hcc⟩ := item_cells h2
          have at_ : ∀ j, j < 6 → cs.toList[off + i * 6 + j]? = c[j]? := by
            intro j hj
            rw [← hcell j hj]
            have : ((⟨r, off, none⟩ : Addr).add (i * 6)).add j = ⟨r, off + i * 6 + j, none⟩ := by
              unfold Addr.add
              by_cases h1 : i * 6 = 0 <;> by_cases h2 : j = 0 <;> simp [h1, h2]
            rw [this]
            unfold World.cell?
            simp [hb]
          refine ⟨x, fun _ => ⟨?_, ?_⟩⟩
          · rw [← hcc]
            refine List.ext_getElem? fun j => ?_
            rcases Nat.lt_or_ge j 6 with hj | hj
            · rw [List.getElem?_take_of_lt hj, List.getElem?_drop, at_ j hj]
            · rw [List.getElem?_eq_none (by simp; omega), List.getElem?_eq_none (by omega)]
          · have h5 := at_ 5 (by omega)
            rw [List.getElem?_eq_getElem (show 5 < c.length by omega)] at h5
            have := (List.getElem?_eq_some_iff.1 h5).1
            omega
        · exact ⟨⟨0, 0, 0, 0, false, false⟩, fun h => absurd h hi⟩
      obtain ⟨X, hX⟩ := Classical.axiomOfChoice hitem
      have hrow := items_row cs.toList off X len fun i hi => (hX i hi).1
      have hll : ((List.range len).map X).length = len := by simp
      have hil : (Ab.itemsC ((List.range len).map X)).length = len * 6 := by
        rw [← hrow, List.length_take, List.length_drop]
        have := (hX (len - 1) (by omega)).2
        omega
      refine .inr ⟨r, off, m, (List.range len).map X, by rw [e, hll], by rw [hll]; exact hnc, cs.toList, t, fz, by simpa using hb, ?_, by rw [hil]; exact hrow, fun j h1 h2 => ?_⟩
      · rw [hil]
        have := (hX (len - 1) (by omega)).2
        omega
      · rw [hil] at h2
        have hm : MemPlace.cell r j ∈ ps := by
          rw [(Prod.mk.inj hps).2, c6]
          refine List.mem_append_left _ (MemPlace.mem_row.2 ⟨j - off, by omega, ?_⟩)
          show MemPlace.cell r j = MemPlace.cell r (off + (j - off))
          rw [show off + (j - off) = j by omega]
        have := hz r j hm
        unfold World.frozen? at this
        simp only [hb] at this
        simpa using this
set_option maxRecDepth 100000 in
theorem lifted (os : Os) (started : os.Started) (H : Type) (enc : TypeId × Value → H) :
    ReturnsInHanded {} Try.checked os 3 .any (Rows.depGrowsSpec.pre6 enc Try.prog Try.f3 Rows.depGrowsRow.domain false) (Rows.depGrowsSpec.post enc Try.prog Try.f3 false true false false) := by
  refine returnsInHanded_of_change_sized (C := Try.checked) own started (by kernel_rfl) Try.func3
    (ChangeSpec.witness6 (enc := enc) (C := Try.checked) false ⟨#[], #[.slice none 0 0, .int .i64 0], []⟩ 8 (by kernel_rfl) (by kernel_rfl) (by kernel_rfl) (by kernel_rfl)) ?_
  intro W base args ds gs before hval0 hW hcnd hsz0 _
  have hval : ∀ (j : Nat) t v, Try.f3.params[j]? = some t → args[j]? = some v → Value.okWide Try.prog W .any base t v := hval0
  have hW' := hW
  obtain ⟨p, q, hA0, hV, rfl, hfz, hnd⟩ := hW
  have hA : DataW.TrodAll enc Try.prog W 0 (fun _ => true) true Try.f3.params.toList args.toList ds p := hA0
  rw [Try.params3] at hA hval
  obtain ⟨v0, vs0, d0, ds0, p0, q0, hargs, rfl, rfl, h0, r0⟩ := trodAll_cons hA
  obtain ⟨v1, vs1, d1, ds1, p1, q1, rfl, rfl, rfl, h1, r1⟩ := trodAll_cons r0
  obtain ⟨rfl, rfl, rfl⟩ := trodAll_nil r1
  obtain rfl : args = #[v0, v1] := by cases args; simp_all
  obtain ⟨rfl, rfl⟩ := trodVars_none hV
  have k0 := h0
  have lt0 : ∀ x ∈ p0, x.block < W.heap.size := by obtain ⟨m, hm⟩ := k0; exact DataW.trod_lt m _ _ _ hm
  have k1 := h1
  have lt1 : ∀ x ∈ p1, x.block < W.heap.size := by obtain ⟨m, hm⟩ := k1; exact DataW.trod_lt m _ _ _ hm
  obtain ⟨a1, rfl⟩ := okWide_int Try.underlying3 (hval 1 3 v1 rfl rfl)
  have vi : ∀ M, Ab.VRs M [.int .i64 a1] [.int .i64 a1] := fun M => .cons (Ab.plain_VR rfl) .nil
  have run : Calls Try.prog 3 #[v0, .int .i64 a1] W fun e w' => e = .returned (.bool true) ∧ Below W.heap.size W w' := by
    rcases open_items (hval 0 22 v0 rfl rfl) h0 (fun b o hm => hfz b o (by simp [hm])) with rfl | ⟨a, c, rfl⟩ | ⟨r, off, c, l, rfl, hc, hz⟩
    · exact Ab.PureOK.calls_with (Ab.gw_pure [] a1) W (fun _ _ _ => False) (fun _ _ _ e => e.elim) (.cons (.gnil 6) (vi _))
    · exact Ab.PureOK.calls_with (Ab.gw_pure [] a1) W (fun _ _ _ => False) (fun _ _ _ e => e.elim) (.cons (.gemp 6 a c) (vi _))
    · refine Ab.PureOK.calls_with (Ab.gw_pure l a1) W (fun r' o' ys => r' = r ∧ o' = off ∧ ys = Ab.itemsC l) (fun r' o' ys e => by obtain ⟨rfl, rfl, rfl⟩ := e; exact hz) (.cons ?_ (vi _))
      have hil := Ab.itemsC_len6 l
      refine Ab.VR.gsl (o := off) (k := 0) (ys := Ab.itemsC l) ⟨rfl, rfl, rfl⟩ (by rw [hil]; omega) hc hil ?_
      rw [List.drop_zero, List.take_of_length_le (by rw [hil]; exact Nat.le_refl _)]
      exact Ab.plains (fun v h => Ab.plain_VR h) (by rw [List.all_eq_true]; exact fun v hv => (Ab.items_plain l v hv).1)
  clear hA0 hval0 hsz0
  refine run.mono fun e W' ⟨he, bel⟩ => ?_
  subst he
  exact ⟨_, rfl, _, _, _, [], _, [], hW', trodAll_mk1 (shut_bool Try.underlying4 _), (trodAll_cons_mk (Below.trod laidOut (by kernel_rfl) (of_decide_eq_true (by kernel_rfl)) k0 bel lt0) (trodAll_cons_mk (Below.trod laidOut (by kernel_rfl) (of_decide_eq_true (by kernel_rfl)) k1 bel lt1) trodAll_mk0)), rfl, bel.frame _, fun h => by cases h⟩
theorem over : Rows.depGrowsRow.holds Try.pinned (OpenSpec.ofChange Rows.depGrowsSpec) :=
  OpenClaim.holds_of_wide 3 Try.f3 rfl rfl rfl rfl rfl rfl rfl ⟨rfl, rfl, rfl, rfl, rfl⟩ rfl rfl rfl rfl rfl (by kernel_rfl) Try.func3 (by kernel_rfl)
    (of_decide_eq_true (by kernel_rfl)) (by unfold Func.isWrapper; first | (rw [if_pos (by decide +kernel)]; kernel_rfl) | (rw [if_neg (by decide +kernel)]; exact ⟨rfl, rfl⟩))
    (fun os started H enc _ => lifted os started H enc)
theorem proved : Rows.DepGrowsSaid := over
#print axioms proved
end Go.Proofs.Ytbcikaoklpekhaa.depGrows
namespace Go.Proofs.Ytbcikaoklpekhaa
/-- The row, under a short name, for the claim. -/
theorem depGrows_holds : Rows.DepGrowsSaid := depGrows.proved
end Go.Proofs.Ytbcikaoklpekhaa
