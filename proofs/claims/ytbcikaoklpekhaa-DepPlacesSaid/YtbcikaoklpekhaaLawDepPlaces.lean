/- The row of DepPlaces: for every slice of numbers, however long. -/
import Derived.Test.YtbcikaoklpekhaaRows
import Derived.Test.YtbcikaoklpekhaaDepPlaces
import Derived.Deep.Slices
import Derived.ChangeSlices
import Derived.WalkKit
import Derived.ProofKit
import Derived.OpenShut
import Derived.ShutString
import Derived.ChangeOld
import Derived.Below
import Derived.SizedLaws
namespace Go.Proofs.Ytbcikaoklpekhaa.depPlaces
open Go.ChangeShapes Go.WideShapes Go.ChangeAt Go.RowKit
open Go.ChangeMaps (open_string shut_string)
set_option linter.unusedVariables false
theorem own : ownKnob Try.prog.godebug = none := by kernel_rfl
theorem laidOut : laidOutB Try.prog = true := by kernel_rfl
theorem c1 : Try.prog.cellsOf 3 = 1 := by kernel_rfl
set_option maxRecDepth 100000 in
/-- A slice of numbers that is handed in: none, or a row. -/
theorem open_row {H : Type} {enc : TypeId × Value → H} {W : World} {base : Nat} {v : Value} {d : DataW H} {ps : List MemPlace}
    (hv : Value.okWide Try.prog W .any base 30 v) (h : DataW.Trod enc Try.prog W 0 (fun _ => true) true 30 v d ps) (hz : W.noneFrozen ps) :
    v = .slice none 0 0 ∨ (∃ a c, v = .slice (some a) 0 c) ∨ ∃ (r off c : Nat) (ks : List Int), v = .slice (some ⟨r, off, none⟩) ks.length c ∧ ks.length ≤ c ∧ Ab.Froz W r off (ks.map (Value.int .i64)) := by
  obtain ⟨a0, len0, cap0, rfl⟩ := okWide_slice Try.underlying30 hv
  obtain ⟨fuel, hf⟩ := h
  rcases Go.ChangeShapes.open_ints Try.underlying30 Try.underlying3 c1 hf with ⟨hcs, _⟩ | ⟨a, len, cap, zs, hcs, _, hlc, _, hl, hx, hc, _⟩
  · left
    have hcs' : [Value.slice a0 len0 cap0] = [.slice none 0 0] := hcs
    injection hcs'
  · right
    have hcs' : [Value.slice a0 len0 cap0] = [.slice (some a) len cap] := hcs
    have e : Value.slice a0 len0 cap0 = .slice (some a) len cap := by injection hcs'
    have hl' : zs.length = cap := hl
    have hsp : a.spot = none := by
      rw [e] at hv
      simp only [Value.okWide, Try.underlying30, Cell.okWide, Cell.ok] at hv
      exact hv.2.2.2.1
    obtain ⟨r, off, sp⟩ := a
    have hsp' : sp = none := hsp
    subst hsp'
    have hps : ps = MemPlace.row ⟨r, off, none⟩ zs.length := (Prod.mk.inj hx).2
    have hcell : ∀ i, i < zs.length → W.cell? ⟨r, off + i, none⟩ = some (.int .i64 (zs.getD i 0)) := fun i hi => by
      rw [← hc i hi]
      unfold Addr.add
      by_cases h0 : i = 0 <;> simp [h0]
    have hblk : ∃ cs t f, W.heap[r]? = some (.cells cs t f) := by
      rw [e] at hv
      simp only [Value.okWide, Try.underlying30, Cell.okWide, Cell.ok] at hv
      obtain ⟨_, _, _, _, row, cells, h3, _⟩ := hv
      unfold World.shape? at h3
      split at h3
      · rename_i c t fz hc; exact ⟨c, t, fz, hc⟩
      · cases h3
    obtain ⟨cs, t, f, hb⟩ := hblk
    have hget : ∀ i, i < zs.length → cs.toList[off + i]? = some (.int .i64 (zs.getD i 0)) := fun i hi => by
      have := hcell i hi
      unfold World.cell? at this
      simpa [hb] using this
    by_cases hlen : len = 0
    · subst hlen
      exact .inl ⟨_, _, e⟩
    · refine .inr ⟨r, off, cap, zs.take len, by rw [e, List.length_take, Nat.min_eq_left (by omega)], by rw [List.length_take]; omega, ?_⟩
      have hlast := hget (len - 1) (by omega)
      have hsz : off + len ≤ cs.toList.length := by
        have := (List.getElem?_eq_some_iff.1 hlast).1
        omega
      refine ⟨cs.toList, t, f, by simpa using hb, by rw [List.length_map, List.length_take]; omega, ?_, fun j h1 h2 => ?_⟩
      · apply List.ext_getElem?
        intro i
        simp only [List.length_map, List.length_take, Nat.min_eq_left (show len ≤ zs.length by omega)]
        by_cases hi : i < len
        · rw [List.getElem?_take_of_lt hi, List.getElem?_drop, hget i (by omega), List.getElem?_map, List.getElem?_take_of_lt hi, List.getElem?_eq_getElem (show i < zs.length by omega), List.getD_eq_getElem?_getD, List.getElem?_eq_getElem (show i < zs.length by omega)]; rfl
        · rw [List.getElem?_eq_none (by simp; omega), List.getElem?_eq_none (by simp; omega)]
      · simp only [List.length_map, List.length_take] at h2
        have hm : MemPlace.cell r j ∈ ps := by
          rw [hps]
          exact MemPlace.mem_row.2 ⟨j - off, by omega, by simp; omega⟩
        have := hz r j hm
        unfold World.frozen? at this
        simp only [hb] at this
        simpa using this
set_option maxRecDepth 100000 in
theorem lifted (os : Os) (started : os.Started) (H : Type) (enc : TypeId × Value → H) :
    ReturnsInHanded {} Try.checked os 6 .any (Rows.depPlacesSpec.pre6 enc Try.prog Try.f6 Rows.depPlacesRow.domain false) (Rows.depPlacesSpec.post enc Try.prog Try.f6 false true false false) := by
  refine returnsInHanded_of_change_sized (C := Try.checked) own started (by kernel_rfl) Try.func6
    (ChangeSpec.witness6 (enc := enc) (C := Try.checked) false ⟨#[], #[.slice none 0 0], []⟩ 8 (by kernel_rfl) (by kernel_rfl) (by kernel_rfl) (by kernel_rfl)) ?_
  intro W base args ds gs before hval0 hW hcnd hsz0 _
  have hval : ∀ (j : Nat) t v, Try.f6.params[j]? = some t → args[j]? = some v → Value.okWide Try.prog W .any base t v := hval0
  have hW' := hW
  obtain ⟨p, q, hA0, hV, rfl, hfz, hnd⟩ := hW
  have hA : DataW.TrodAll enc Try.prog W 0 (fun _ => true) true Try.f6.params.toList args.toList ds p := hA0
  rw [Try.params6] at hA hval
  obtain ⟨v0, vs0, d0, ds0, p0, q0, hargs, rfl, rfl, h0, r0⟩ := trodAll_cons hA
  obtain ⟨rfl, rfl, rfl⟩ := trodAll_nil r0
  obtain rfl : args = #[v0] := by cases args; simp_all
  obtain ⟨rfl, rfl⟩ := trodVars_none hV
  have k0 := h0
  have lt0 : ∀ x ∈ p0, x.block < W.heap.size := by obtain ⟨m, hm⟩ := k0; exact DataW.trod_lt m _ _ _ hm
  have run : Calls Try.prog 6 #[v0] W fun e w' => e = .returned (.bool true) ∧ Below W.heap.size W w' := by
    rcases open_row (hval 0 30 v0 rfl rfl) h0 (fun b o hm => hfz b o (by simp [hm])) with rfl | ⟨a, c, rfl⟩ | ⟨r, off, c, ks, rfl, hc, hz⟩
    · exact Ab.PureOK.calls_with (Ab.pl_pure []) W (fun _ _ _ => False) (fun _ _ _ e => e.elim) (.cons (.gnil 1) .nil)
    · exact Ab.PureOK.calls_with (Ab.pl_pure []) W (fun _ _ _ => False) (fun _ _ _ e => e.elim) (.cons (.gemp 1 a c) .nil)
    · refine Ab.PureOK.calls_with (Ab.pl_pure ks) W (fun r' o' ys => r' = r ∧ o' = off ∧ ys = ks.map (Value.int .i64)) (fun r' o' ys e => by obtain ⟨rfl, rfl, rfl⟩ := e; exact hz) (.cons ?_ .nil)
      refine Ab.VR.gsl (o := off) (k := 0) (ys := ks.map (Value.int .i64)) ⟨rfl, rfl, rfl⟩ (by simp) hc (by simp) ?_
      rw [List.drop_zero, Nat.mul_one, List.take_of_length_le (by simp)]
      exact Ab.plains (fun v h => Ab.plain_VR h) (by simp [List.all_map, Ab.plain, Ab.plainN, List.all_eq_true])
  clear hA0 hval0 hsz0
  refine run.mono fun e W' ⟨he, bel⟩ => ?_
  subst he
  exact ⟨_, rfl, _, _, _, [], _, [], hW', trodAll_mk1 (shut_bool Try.underlying4 _), (trodAll_cons_mk (Below.trod laidOut (by kernel_rfl) (of_decide_eq_true (by kernel_rfl)) k0 bel lt0) trodAll_mk0), rfl, bel.frame _, fun h => by cases h⟩
theorem over : Rows.depPlacesRow.holds Try.pinned (OpenSpec.ofChange Rows.depPlacesSpec) :=
  OpenClaim.holds_of_wide 6 Try.f6 rfl rfl rfl rfl rfl rfl rfl ⟨rfl, rfl, rfl, rfl, rfl⟩ rfl rfl rfl rfl rfl (by kernel_rfl) Try.func6 (by kernel_rfl)
    (of_decide_eq_true (by kernel_rfl)) (by unfold Func.isWrapper; first | (rw [if_pos (by decide +kernel)]; kernel_rfl) | (rw [if_neg (by decide +kernel)]; exact ⟨rfl, rfl⟩))
    (fun os started H enc _ => lifted os started H enc)
theorem proved : Rows.DepPlacesSaid := over
#print axioms proved
end Go.Proofs.Ytbcikaoklpekhaa.depPlaces
namespace Go.Proofs.Ytbcikaoklpekhaa
/-- The row, under a short name, for the claim. -/
theorem depPlaces_holds : Rows.DepPlacesSaid := depPlaces.proved
end Go.Proofs.Ytbcikaoklpekhaa
