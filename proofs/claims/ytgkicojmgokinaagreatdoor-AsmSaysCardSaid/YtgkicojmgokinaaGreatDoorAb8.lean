/- Trimmed: Ab8 -/
import Derived.Test.YtgkicojmgokinaaGreatDoorAb7
namespace Go.Proofs.YtgkicojmgokinaaGreatDoor.Ab
open Go Go.RowKit
set_option linter.unusedVariables false
set_option linter.unusedSimpArgs false
theorem zeros_take (z : List Value) {m n : Nat} (h : m ≤ n) : (zeros z n).take m = zeros z m := by
  unfold zeros
  rw [← List.map_take, List.take_range, Nat.min_eq_left h]
theorem zeros_length (z : List Value) (n : Nat) : (zeros z n).length = n := by simp [zeros]
theorem zeros_VRs {M : Mp} {z : List Value} (hz : VRs M z z) (n : Nat) : VRs M (zeros z n) (zeros z n) := by
  refine VRs.of rfl fun i x y hx hy => ?_
  rw [hx] at hy
  cases hy
  unfold zeros at hx
  rw [List.getElem?_map] at hx
  obtain ⟨k, _, rfl⟩ := Option.map_eq_some_iff.1 hx
  by_cases hk : k % z.length < z.length
  · obtain ⟨y, h1, h2⟩ := hz.get (k % z.length) (x := z[k % z.length]) (List.getElem?_eq_getElem hk)
    rw [List.getElem?_eq_getElem hk] at h1
    cases h1
    rw [getElem!_pos z _ hk]
    exact h2
  · rw [getElem!_neg z _ hk]
    exact .bool _
theorem zeros_array (z : Array Value) (n : Nat) : (Array.range n).map (fun i => z[i % z.size]!) = (zeros z.toList n).toArray := by
  apply Array.ext'
  simp [zeros, getElem!_def]
section
variable {P : Program} {T : Tab} (hT : TabOK P T) {lo : Nat} {M : Mp} {H : Heap} {w : World} (hR : Rel lo M H w) {F : Fr} {a : Act} (hF : FR M F a.tmps) {v : Value} {H' : Heap}
include hT hR in
theorem e_alloc {e : TypeId} {i : TI} (hi : T e = some i) : Effect P lo M H w a.eval (.alloc e) (.pointer (some ⟨H.length, 0, none⟩)) (H ++ [some ⟨i.zero.cells.toList, e, none⟩]) := by
  obtain ⟨info, d, h1, h2, h3, h4, h5, h6, h7⟩ := hT.get hi
  have hz := cells_VRs (plain_VR (M := M) h7)
  obtain ⟨k1, k2, k3⟩ := hR.new (cs := i.zero.cells.toList) (b := ⟨i.zero.cells.toList, e, none⟩) (Nat.le_refl _) (by simp only; rw [List.take_length]; exact hz) rfl
  refine ⟨_, _, _, .value (.pointer (some ⟨w.heap.size, 0, none⟩)), fun o ho => ?_, .inl rfl, .ptr (s := 0) (Mp.add_get hR.len), k2, k1, k3⟩
  simp [execOp, ho, Instr.alloc, hT.zeroValue hi w, newVar, newRow]
include hR hF in
theorem e_box {e : TypeId} {X : Operand} {x : Value} (hx : arg F X = some x) : Effect P lo M H w a.eval (.box e X) (.pointer (some ⟨H.length, 0, none⟩)) (H ++ [some ⟨x.cells.toList, e, none⟩]) := by
  have hv := cells_VRs (arg_sound hF hx)
  have hl := hv.length
  obtain ⟨k1, k2, k3⟩ := hR.new (cs := (a.eval X).cells.toList) (b := ⟨x.cells.toList, e, none⟩) (by rw [hl]; exact Nat.le_refl _) (by simp only; rw [hl, List.take_length]; exact hv) rfl
  refine ⟨_, _, _, .value (.pointer (some ⟨w.heap.size, 0, none⟩)), fun o ho => ?_, .inl rfl, .ptr (s := 0) (Mp.add_get hR.len), k2, k1, k3⟩
  simp [execOp, ho, Instr.box, newVar, newRow]
include hT hR in
theorem e_make {t : TypeId} {L C : Operand} {l c : Value} (hl : VR M l (a.eval L)) (hc : VR M c (a.eval C)) (h : makeA T H t l c = some (v, H')) : Effect P lo M H w a.eval (.makeSlice t L C) v H' := by
  generalize hzl : a.eval L = l' at hl
  generalize hzc : a.eval C = c' at hc
  unfold makeA at h
  split at h
  · rename_i e _ _ _ _ l _ c ht
    split at h
    · rename_i i he
      split at h
      · rename_i hb
        obtain ⟨hb1, hb2, hb3, hb4, hb5⟩ := hb
        cases h; cases hl; cases hc
        obtain ⟨info, d, h1, h2, h3, h4, h5, h6, h7⟩ := hT.get he
        obtain ⟨info', d', h1', h2', h3', h4', h5', h6', h7'⟩ := hT.get ht
        have := und_slice h3'; subst this
        have hz := cells_VRs (plain_VR (M := M) h7)
        have hle : l.toNat * i.size ≤ c.toNat * i.size := Nat.mul_le_mul_right _ (by omega)
        obtain ⟨k1, k2, k3⟩ := hR.new (cs := zeros i.zero.cells.toList (c.toNat * i.size)) (b := ⟨zeros i.zero.cells.toList (l.toNat * i.size), e, none⟩)
          (by simp only [zeros_length]; exact hle) (by simp only [zeros_length]; rw [zeros_take _ hle]; exact zeros_VRs hz _) rfl
        refine ⟨_, _, _, .value (.slice (some ⟨w.heap.size, 0, none⟩) l.toNat c.toNat), fun o ho => ?_, .inl rfl, .slice (r := w.heap.size) (N := (zeros i.zero.cells.toList (c.toNat * i.size)).length) (s := 0) (Mp.add_get hR.len) (by omega) (by rw [zeros_length]; omega), k2, k1, k3⟩
        have e1 : IntKind.i64.wrap l = l := IntWalk.i64_in l (by omega)
        have e2 : IntKind.i64.wrap c = c := IntWalk.i64_in c (by omega)
        have e3 : ¬ (c < 0) := by omega
        have e4 : ¬ ((281474976710656 : Int) < (info.bytes : Int) * c) := by rw [h5]; omega
        have e5 : ¬ (l < 0) := by omega
        have e6 : ¬ (c < l) := by omega
        have e7 : (if c.toNat * i.size = 0 then (pure #[] : Sem (Array Value)) else do pure (← Go.zeroValue e).cells).run P w = .ok (if c.toNat * i.size = 0 then #[] else i.zero.cells) w := by
          split
          · rfl
          · simp [hT.zeroValue he w]
        have e8 : (Array.range (c.toNat * i.size)).map (fun k => (if c.toNat * i.size = 0 then (#[] : Array Value) else i.zero.cells)[k % (if c.toNat * i.size = 0 then (#[] : Array Value) else i.zero.cells).size]!) = (zeros i.zero.cells.toList (c.toNat * i.size)).toArray := by
          by_cases h0 : c.toNat * i.size = 0
          · simp [h0, zeros]
          · simp only [h0, if_false]; exact zeros_array _ _
        have hti : (Go.typeInfo e).run P w = .ok info w := by simp [Go.typeInfo, h1]
        have hund : (Go.underlying t).run P w = .ok (.slice e) w := run_underlying h2' w
        simp only [execOp, ho, Instr.makeSlice, hzl, hzc, Sem.run_bind, hund, Result.andThen_ok, asInt, asIntOf, Sem.run_pure, hti, e1, e2, hT.sizeOf he w, e7, run_askRoom]
        by_cases h0 : c.toNat * i.size = 0
        · simp [e3, e4, e5, e6, hT.sizeOf he w, h0, zeros, newRow]
          congr 2
          apply Array.ext'; simp
        · have hza := zeros_array i.zero.cells (c.toNat * i.size)
          simp [e3, e4, e5, e6, hT.sizeOf he w, hT.zeroValue he w, h0, hza, newRow]
      · cases h
    · cases h
  · cases h
include hT hF in
theorem row_run {t : TypeId} {len : Nat} {parts : Array (Nat × Operand)} {l : List (Nat × Value)} (hp : partsA F parts.toList = some l) (h : rowA T H t len l = some (v, H')) : ∃ (e : TypeId) (sz : Nat) (cs out' : List Value), v = .slice (some ⟨H.length, 0, none⟩) len sz ∧ H' = H ++ [some ⟨cs, e, none⟩] ∧ VRs M cs out' ∧ out'.length = len * sz ∧ ∀ o : Oper, o.op = .buildSlice t len parts → (execOp a.eval o).run P w = .ok (.value (.slice (some ⟨w.heap.size, 0, none⟩) len len)) (w.alloc (.cells out'.toArray e)) := by
  obtain ⟨p1, p2⟩ := partsA_sound hF _ _ hp
  have e1 : l.map (·.1) = (parts.map fun (x : Nat × Operand) => (x.1, a.eval x.2)).toList.map (·.1) := by rw [p1]; simp
  have e2 : VRs M (l.map (·.2)) ((parts.map fun (x : Nat × Operand) => (x.1, a.eval x.2)).toList.map (·.2)) := by simpa using p2
  unfold rowA at h
  split at h
  · rename_i e _ _ _ ht
    split at h
    · rename_i i he
      split at h
      · rename_i hb
        obtain ⟨hb1, hb2, hb3⟩ := hb
        split at h
        · rename_i cs hcs
          cases h
          obtain ⟨info, d, h1, h2, h3, h4, h5, h6, h7⟩ := hT.get he
          obtain ⟨info', d', h1', h2', h3', h4', h5', h6', h7'⟩ := hT.get ht
          have := und_slice h3'; subst this
          have hz := cells_VRs (plain_VR (M := M) h7)
          obtain ⟨out', k4, k5⟩ := fillA_sound (fun k => some (k * i.size, i.size)) l _ _ _ _ (zeros_VRs hz (len * i.size)) e1 e2 hcs
          have hlen : out'.length = len * i.size := by
            have g : ∀ (ps : List (Nat × Value)) (c o : List Value), fillA (fun k => some (k * i.size, i.size)) c ps = some o → o.length = c.length := by
              intro ps
              induction ps with
              | nil => intro c o h; cases h; rfl
              | cons p ps ih =>
                intro c o h
                simp only [fillA] at h
                split at h
                · rename_i hh
                  rw [ih _ _ h]
                  simp only [List.length_append, List.length_take, List.length_drop]; omega
                · cases h
            rw [← k4.length, g _ _ _ hcs, zeros_length]
          have hcl := k4.length
          refine ⟨e, i.size, cs, out', rfl, rfl, k4, hlen, fun o ho => ?_⟩
          have hund : (Go.underlying t).run P w = .ok (.slice e) w := run_underlying h2' w
          have hne : ¬ (len * i.size = 0) := by
            intro h0; rcases Nat.mul_eq_zero.1 h0 with h | h <;> omega
          have hng : ¬ (len * i.size > 2 ^ 24) := by omega
          have hza := zeros_array i.zero.cells (len * i.size)
          simp only [execOp, ho, Instr.buildSlice, Sem.run_bind, hund, Result.andThen_ok, hT.sizeOf he w, hng, if_false, hne, hT.zeroValue he w, Sem.run_pure, hza]
          have k5' : Instr.fill (fun k => some (k * i.size, i.size)) (zeros i.zero.cells.toList (len * i.size)).toArray (parts.map fun (x : Nat × Operand) => (x.1, a.eval x.2)).toList = some out'.toArray := k5
          simp only [k5']
          simp [newRow]
        · cases h
      · cases h
    · cases h
  · cases h
include hT hR hF in
theorem e_row {t : TypeId} {len : Nat} {parts : Array (Nat × Operand)} {l : List (Nat × Value)} (hp : partsA F parts.toList = some l) (h : rowA T H t len l = some (v, H')) : Effect P lo M H w a.eval (.buildSlice t len parts) v H' := by
  obtain ⟨e, sz, cs, out', rfl, rfl, k4, hlen, hrun⟩ := row_run (P := P) (w := w) hT hF hp h
  have hcl := k4.length
  obtain ⟨k1, k2, k3⟩ := hR.new (cs := out') (b := ⟨cs, e, none⟩) (by simp only; rw [hcl]; exact Nat.le_refl _) (by simp only; rw [hcl, List.take_length]; exact k4) rfl
  exact ⟨_, _, _, .value (.slice (some ⟨w.heap.size, 0, none⟩) len len), hrun, .inl rfl, .slice (r := w.heap.size) (s := 0) (N := out'.length) (Mp.add_get hR.len) (Nat.le_refl _) (by rw [hlen]; omega), k2, k1, k3⟩
include hT hR hF in
theorem e_store {t : TypeId} {X V : Operand} {x y : Value} (hx : arg F X = some x) (hy : arg F V = some y) (h : storeA T lo H t x y = some H') : Effect P lo M H w a.eval (.store t X V) undef H' := by
  have hx' := arg_sound hF hx
  have hy' := arg_sound hF hy
  have hc := cells_VRs hy'
  have hcl := hc.length
  generalize hz : a.eval X = x' at hx'
  unfold storeA at h
  split at h
  · rename_i p
    split at h
    · rename_i i hi
      split at h
      · rename_i b hb
        split at h
        · rename_i hh
          obtain ⟨h1, h2, h3, h4⟩ := hh
          cases h
          cases hx' with
          | @ptr bk off r sb N hM =>
          simp only at hb h1 h3
          obtain ⟨r', cs, g1, g2, g3, g4⟩ := hR.at_ h1 hb
          rw [g1] at hM; cases hM
          rw [Nat.zero_add] at hz
          have hone := one_VRs hc h4
          have hst := run_storeCells_at P r off b.elem (a.eval V).cells.toList 0 cs.toArray w g2 (by rw [← hcl, h2]; simp; omega) hone
          simp only [Nat.add_zero] at hst
          have hl2 : ((cs.take off ++ (a.eval V).cells.toList ++ cs.drop (off + i.size))).length = cs.length := by
            simp only [List.length_append, List.length_take, List.length_drop, ← hcl, h2]; omega
          have hbl : ((b.cells.take off ++ y.cells.toList ++ b.cells.drop (off + i.size))).length = b.cells.length := by
            simp only [List.length_append, List.length_take, List.length_drop, h2]; omega
          have hvr : VRs M (b.cells.take off ++ y.cells.toList ++ b.cells.drop (off + i.size)) ((cs.take off ++ (a.eval V).cells.toList ++ cs.drop (off + i.size)).take (b.cells.take off ++ y.cells.toList ++ b.cells.drop (off + i.size)).length) := by
            rw [hbl]
            have e : (cs.take off ++ (a.eval V).cells.toList ++ cs.drop (off + i.size)).take b.cells.length = (cs.take b.cells.length).take off ++ (a.eval V).cells.toList ++ (cs.take b.cells.length).drop (off + i.size) := by
              rw [List.take_take, Nat.min_eq_left (by omega), List.drop_take, List.append_assoc, List.append_assoc, List.take_append, List.take_append]
              have l1 : (cs.take off).length = off := by rw [List.length_take]; omega
              rw [l1, List.take_of_length_le (by rw [l1]; omega), List.take_of_length_le (l := (a.eval V).cells.toList) (by rw [← hcl, h2]; omega), ← hcl, h2]
              congr 3; omega
            rw [e]
            exact ((g4.take off).append hc).append (g4.drop _)
          obtain ⟨k1, k2⟩ := hR.write (b' := ⟨b.cells.take off ++ y.cells.toList ++ b.cells.drop (off + i.size), b.elem, none⟩) h1 hb g1 g2 hl2 rfl rfl (by simp only; rw [hl2, hbl]; exact g3) hvr
          refine ⟨M, undef, _, .skip, fun o ho => ?_, .inr ⟨rfl, rfl⟩, plain_VR rfl, Ext.refl _ _ _, k1, k2⟩
          have hsz : (a.eval V).cells.size = i.size := by rw [← Array.length_toList, ← hcl, h2]
          simp only [execOp, ho, hz, Instr.storeAt, Instr.sureAddr, storeVar, Sem.run_bind, Sem.run_pure, Result.andThen_ok, hT.sizeOf hi w, hsz, ne_eq, not_true_eq_false, if_false, hst]
          rw [← hcl, h2]
        · cases h
      · cases h
    · cases h
  · cases h
end
end Go.Proofs.YtgkicojmgokinaaGreatDoor.Ab
