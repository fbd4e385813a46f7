/- The tied card of corrallaw5.AsmBack: words told as lines, and read, are the same words; else the first that is none is named; for every slice of words. What the package's variables hold at the call is laid, as the row lists it. -/
import Derived.Test.YtgkicojmgokinaaGreatDoorRows
import Derived.Test.YtgkicojmgokinaaGreatDoorCards
import Derived.Test.YtgkicojmgokinaaGreatDoorTie
import Derived.Test.YtgkicojmgokinaaGreatDoorAsmBackOk
import Derived.Test.YtgkicojmgokinaaGreatDoorAsmRow
import Derived.Deep.Slices
import Derived.ChangeSlices
import Derived.WalkKit
import Derived.ProofKit
import Derived.OpenShut
import Derived.ShutString
import Derived.ChangeOld
import Derived.Below
import Derived.SizedLaws
import Derived.SevenTiedAt
namespace Go.Proofs.YtgkicojmgokinaaGreatDoor.asmBack
open Go.ChangeShapes Go.WideShapes Go.ChangeAt Go.RowKit
open Go.ChangeMaps (open_string shut_string)
set_option linter.unusedVariables false
set_option maxRecDepth 100000
theorem c1 : Tryz.prog.cellsOf 22 = 1 := by kernel_rfl
set_option maxRecDepth 100000 in
/-- A slice of numbers that is handed in: none, or a row. -/
theorem open_row {H : Type} {enc : TypeId × Value → H} {W : World} {base : Nat} {v : Value} {d : DataW H} {ps : List MemPlace}
    (hv : Value.okWide Tryz.prog W .any base 40 v) (h : DataW.Trod enc Tryz.prog W 0 (fun _ => true) true 40 v d ps) (hz : W.noneFrozen ps) :
    v = .slice none 0 0 ∨ (∃ a c, v = .slice (some a) 0 c) ∨ ∃ (r off c : Nat) (ks : List Int), v = .slice (some ⟨r, off, none⟩) ks.length c ∧ ks.length ≤ c ∧ Ab.Froz W r off (ks.map (Value.int .u32)) ∧ ∀ w ∈ ks, Ab.W32 w := by
  obtain ⟨a0, len0, cap0, rfl⟩ := okWide_slice Tryz.underlying40 hv
  obtain ⟨fuel, hf⟩ := h
  rcases Go.ChangeShapes.open_ints Tryz.underlying40 Tryz.underlying22 c1 hf with ⟨hcs, _⟩ | ⟨a, len, cap, zs, hcs, _, hlc, _, hl, hx, hc, hwf⟩
  · left
    have hcs' : [Value.slice a0 len0 cap0] = [.slice none 0 0] := hcs
    injection hcs'
  · right
    have hcs' : [Value.slice a0 len0 cap0] = [.slice (some a) len cap] := hcs
    have e : Value.slice a0 len0 cap0 = .slice (some a) len cap := by injection hcs'
    have hl' : zs.length = cap := hl
    have hsp : a.spot = none := by
      rw [e] at hv
      simp only [Value.okWide, Tryz.underlying40, Cell.okWide, Cell.ok] at hv
      exact hv.2.2.2.1
    obtain ⟨r, off, sp⟩ := a
    have hsp' : sp = none := hsp
    subst hsp'
    have hps : ps = MemPlace.row ⟨r, off, none⟩ zs.length := (Prod.mk.inj hx).2
    have hcell : ∀ i, i < zs.length → W.cell? ⟨r, off + i, none⟩ = some (.int .u32 (zs.getD i 0)) := fun i hi => by
      rw [← hc i hi]
      unfold Addr.add
      by_cases h0 : i = 0 <;> simp [h0]
    have hblk : ∃ cs t f, W.heap[r]? = some (.cells cs t f) := by
      rw [e] at hv
      simp only [Value.okWide, Tryz.underlying40, Cell.okWide, Cell.ok] at hv
      obtain ⟨_, _, _, _, row, cells, h3, _⟩ := hv
      unfold World.shape? at h3
      split at h3
      · rename_i c t fz hc; exact ⟨c, t, fz, hc⟩
      · cases h3
    obtain ⟨cs, t, f, hb⟩ := hblk
    have hget : ∀ i, i < zs.length → cs.toList[off + i]? = some (.int .u32 (zs.getD i 0)) := fun i hi => by
      have := hcell i hi
      unfold World.cell? at this
      simpa [hb] using this
    by_cases hlen : len = 0
    · subst hlen
      exact .inl ⟨_, _, e⟩
    · refine .inr ⟨r, off, cap, zs.take len, by rw [e, List.length_take, Nat.min_eq_left (by omega)], by rw [List.length_take]; omega, ?_, fun w hw => by
        have := hwf w (List.mem_of_mem_take hw)
        have h2 : 0 ≤ w ∧ w ≤ 4294967295 := by simpa [Lit.wf, IntKind.min, IntKind.max, IntKind.signed, IntKind.bits] using this
        exact ⟨h2.1, by omega⟩⟩
      have hlast := hget (len - 1) (by omega)
      have hsz : off + len ≤ cs.toList.length := by
        have := (List.getElem?_eq_some_iff.1 hlast).1
        omega
      refine ⟨cs.toList, t, f, by simpa using hb, by rw [List.length_map, List.length_take]; omega, ?_, fun j h1 h2 => ?_⟩
      · apply List.ext_getElem?
        intro i
        simp only [List.length_map, List.length_take, Nat.min_eq_left (show len ≤ zs.length by omega)]
        by_cases hi : i < len
        · rw [List.getElem?_take_of_lt hi, List.getElem?_drop, hget i (by omega), List.getElem?_map, List.getElem?_take_of_lt hi, List.getElem?_eq_getElem (show i < zs.length by omega), List.getD_eq_getElem?_getD, List.getElem?_eq_getElem (show i < zs.length by omega)]; rfl
        · rw [List.getElem?_eq_none (by simp; omega), List.getElem?_eq_none (by simp; omega)]
      · simp only [List.length_map, List.length_take] at h2
        have hm : MemPlace.cell r j ∈ ps := by
          rw [hps]
          exact MemPlace.mem_row.2 ⟨j - off, by omega, by simp; omega⟩
        have := hz r j hm
        unfold World.frozen? at this
        simp only [hb] at this
        simpa using this
set_option maxRecDepth 100000 in
theorem lifted (os : Os) (started : os.Started) (H : Type) (enc : TypeId × Value → H) :
    ReturnsInHanded {} Tryz.checked os 4 .any (fun w args => (Rows.asmBackSpec.pre enc Tryz.prog Tryz.f4 [] false w args ∧ laidMetH Tryz.prog seatLaid w) ∧ sizedMet enc Tryz.prog Tryz.f4 (OpenSpec.ofChange Rows.asmBackSpec) false w args)
      (Rows.asmBackSpec.post enc Tryz.prog Tryz.f4 false true false false) := by
  refine returns_laid_shaped (C := Tryz.checked) (X := fun w _ => laidMetH Tryz.prog seatLaid w) (fun _ _ _ hh h => h.of_heap hh) own started (by kernel_rfl) Tryz.func4
    (ChangeSpec.witness_shaped (enc := enc) (C := Tryz.checked) (os := os) (X := fun w _ => laidMetH Tryz.prog seatLaid w) false (World.laidAll Tryz.prog os seatLaid) #[.slice none 0 0] 8 (World.laidAll_os _ _ _) (World.shaped_of_ZipB (by kernel_rfl) (by kernel_rfl)) (by kernel_rfl) (by kernel_rfl) (by kernel_rfl)
      (by rw [MakeChecks.laidMetH_plain _ _ _ (by kernel_rfl)]; exact laidMet_laidAll _ (by kernel_rfl) (by kernel_rfl))) ?_
  intro W base args ds gs before hval0 hW _ _ hL hsh
  rw [MakeChecks.laidMetH_plain _ _ _ (by kernel_rfl)] at hL
  have hgl := globs_of hL hsh
  have hval : ∀ (j : Nat) t v, Tryz.f4.params[j]? = some t → args[j]? = some v → Value.okWide Tryz.prog W .any base t v := hval0
  have hW' := hW
  obtain ⟨p, q, hA0, hV, rfl, hfz, hnd⟩ := hW
  have hA : DataW.TrodAll enc Tryz.prog W 0 (fun _ => true) true Tryz.f4.params.toList args.toList ds p := hA0
  rw [Tryz.params4] at hA hval
  obtain ⟨v0, vs0, d0, ds0, p0, q0, hargs, rfl, rfl, h0, r0⟩ := trodAll_cons hA
  obtain ⟨rfl, rfl, rfl⟩ := trodAll_nil r0
  obtain rfl : args = #[v0] := by cases args; simp_all
  obtain ⟨rfl, rfl⟩ := trodVars_none hV
  have k0 := h0
  have lt0 : ∀ x ∈ p0, x.block < W.heap.size := by obtain ⟨m, hm⟩ := k0; exact DataW.trod_lt m _ _ _ hm
  have run : Calls Tryz.prog 4 #[v0] W fun e w' => e = .returned (.bool true) ∧ Below W.heap.size W w' := by
    have tell : ∀ {ws : List Int} (hw : ∀ w ∈ ws, Ab.W32 w) (Z : Nat → Nat → List Value → Prop), (∀ r o ys, Z r o ys → Ab.Froz W r o ys) → Ab.Globs Z W → Ab.VRs ⟨[], Z⟩ [Ab.LW ws] [v0] → Calls Tryz.prog 4 #[v0] W fun e w' => e = .returned (.bool true) ∧ Below W.heap.size W w' := fun hw Z hZ hg hv =>
      (Ab.asmBackOK hw Z W [v0] hZ hg hv).mono fun e w' ⟨Z', rv, he, hb, _, _, hr⟩ => by
        have := Ab.plain_eq (v := .bool true) rfl hr
        subst this
        exact ⟨he, hb⟩
    rcases open_row (hval 0 40 v0 rfl rfl) h0 (fun b o hm => hfz b o (by simp [hm])) with rfl | ⟨a, c, rfl⟩ | ⟨r, off, c, ks, rfl, hc, hz, hks⟩
    · exact tell (ws := []) (fun w hw => by cases hw) (Ab.Froz W) (fun _ _ _ h => h) hgl (.cons (.gnil 1) .nil)
    · exact tell (ws := []) (fun w hw => by cases hw) (Ab.Froz W) (fun _ _ _ h => h) hgl (.cons (.gemp 1 a c) .nil)
    · refine tell (ws := ks) hks (Ab.Froz W) (fun _ _ _ h => h) hgl (.cons ?_ .nil)
      refine Ab.VR.gsl (o := off) (k := 0) (ys := ks.map (Value.int .u32)) hz (by simp) hc (by simp) ?_
      rw [List.drop_zero, Nat.mul_one, List.take_of_length_le (by simp)]
      exact Ab.plains (fun _ => Ab.plain_VR) (by simp [List.all_map, Ab.plain, Ab.plainN, List.all_eq_true])
  clear hA0 hval0
  refine run.mono fun e W' ⟨he, bel⟩ => ?_
  subst he
  exact ⟨_, rfl, _, _, _, [], _, [], hW', trodAll_mk1 (shut_bool Tryz.underlying4 _), (trodAll_cons_mk (Below.trod laidOut (by kernel_rfl) (of_decide_eq_true (by kernel_rfl)) k0 bel lt0) trodAll_mk0), rfl, bel.frame _, fun h => by cases h⟩
theorem over : Rows.asmBackRow.holds Tryz.pinned (OpenSpec.ofChange Rows.asmBackSpec) :=
  OpenClaim.holds_of_wide 4 Tryz.f4 rfl rfl rfl rfl rfl rfl rfl ⟨rfl, rfl, rfl, rfl, rfl⟩ rfl rfl rfl rfl rfl (by kernel_rfl) Tryz.func4 (by kernel_rfl)
    (of_decide_eq_true (by kernel_rfl)) (by unfold Func.isWrapper; first | (rw [if_pos (by decide +kernel)]; kernel_rfl) | (rw [if_neg (by decide +kernel)]; exact ⟨rfl, rfl⟩))
    (fun os started H enc _ => lifted os started H enc)
theorem card : Rows.AsmBackCardSaid :=
  Claim7.holds_tied_plain_at .later [] [.data, .data, .data, .data, .sentinel, .sentinel, .sentinel, .sentinel, .sentinel, .sentinel, .sentinel, .sentinel, .sentinel, .sentinel, .sentinel, .sentinel, .sentinel, .pinned] true (true, "a67571bc19a2b5b1ae3230c41624e1bd2a14ad5d5704f28769ebb4e3b8d8a86f") true over (fun _ h => by cases h) (by kernel_rfl) (fun _ h => by cases h) asmBack_row_tie rfl ⟨rfl, rfl⟩ (by kernel_rfl) rfl
    (fun f fn hf hfn => by
      obtain rfl : f = 4 := Option.some.inj ((show Tryz.prog.funcNamed "corral/corrallaw5.AsmBack" = some 4 by kernel_rfl).symm.trans hf) |>.symm
      obtain rfl : fn = Tryz.f4 := (Option.some.inj (Tryz.func4.symm.trans hfn)).symm
      exact ⟨by kernel_rfl, fun j t ht => by
        rw [Tryz.params4] at ht
        have hm : t ∈ [40] := by simpa using Array.mem_of_getElem? ht
        have hall : ([40].all fun u => !Tryz.prog.wantsStandIn u) = true := by kernel_rfl
        exact (show Tryz.prog.wantsStandIn t = false by simpa using List.all_eq_true.1 hall t hm)⟩)
    (by kernel_rfl)
#print axioms card
end Go.Proofs.YtgkicojmgokinaaGreatDoor.asmBack
namespace Go.Proofs.YtgkicojmgokinaaGreatDoor
/-- The card, under a short name, for the claim. -/
theorem asmBack_holds : Rows.AsmBackCardSaid := asmBack.card
end Go.Proofs.YtgkicojmgokinaaGreatDoor
