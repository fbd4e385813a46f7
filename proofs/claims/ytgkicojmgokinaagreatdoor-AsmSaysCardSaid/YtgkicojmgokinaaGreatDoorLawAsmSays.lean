/- Trimmed: LawAsmSays -/
import Derived.Test.YtgkicojmgokinaaGreatDoorRows
import Derived.Test.YtgkicojmgokinaaGreatDoorCards
import Derived.Test.YtgkicojmgokinaaGreatDoorTie
import Derived.Test.YtgkicojmgokinaaGreatDoorAsmSaysOk
import Derived.Test.YtgkicojmgokinaaGreatDoorAsmRow
import Derived.Deep.Slices
import Derived.ChangeSlices
import Derived.WalkKit
import Derived.ProofKit
import Derived.OpenShut
import Derived.ShutString
import Derived.ChangeOld
import Derived.Below
import Derived.SizedLaws
import Derived.SevenTiedAt
namespace Go.Proofs.YtgkicojmgokinaaGreatDoor.asmSays
open Go.ChangeShapes Go.WideShapes Go.ChangeAt Go.RowKit
open Go.ChangeMaps (open_string shut_string)
set_option linter.unusedVariables false
set_option maxRecDepth 100000
theorem bool_cell {H : Type} {enc : TypeId × Value → H} {W : World} {fuel : Nat} {z : Value} {x : DataW H × List MemPlace} (h : DataW.trod enc Tryz.prog W 0 (fun _ => true) true fuel 4 [z] = some x) : ∃ b : Bool, z = .bool b := by
  obtain ⟨b, hz, _⟩ := DataW.trod_bool Tryz.underlying4 h
  exact ⟨b, by injection hz⟩
theorem int_cell {H : Type} {enc : TypeId × Value → H} {W : World} {fuel : Nat} {z : Value} {x : DataW H × List MemPlace} (h : DataW.trod enc Tryz.prog W 0 (fun _ => true) true fuel 3 [z] = some x) : ∃ k : Int, z = .int .i64 k := by
  obtain ⟨k, hz, _⟩ := DataW.trod_int Tryz.underlying3 h
  exact ⟨k, by injection hz⟩
theorem word_cell {H : Type} {enc : TypeId × Value → H} {W : World} {fuel : Nat} {z : Value} {x : DataW H × List MemPlace} (h : DataW.trod enc Tryz.prog W 0 (fun _ => true) true fuel 22 [z] = some x) : ∃ k : Int, z = .int .u32 k ∧ 0 ≤ k ∧ k < 4294967296 := by
  obtain ⟨k, hz, _, hw⟩ := DataW.trod_int Tryz.underlying22 h
  have : 0 ≤ k ∧ k ≤ 4294967295 := by simpa [Lit.wf, IntKind.min, IntKind.max, IntKind.signed, IntKind.bits] using hw
  exact ⟨k, by injection hz, this.1, by omega⟩
theorem inst_cells {H : Type} {enc : TypeId × Value → H} {W : World} {fuel : Nat} {cs : List Value} {x : DataW H × List MemPlace} (h : DataW.trod enc Tryz.prog W 0 (fun _ => true) true fuel 24 cs = some x) :
    ∃ i : Ab.Inst, cs = Ab.instC i ∧ i.wf := by
  obtain ⟨xs, k, _, _, hl, hsz, hel⟩ := DataW.trod_struct Tryz.underlying24 h
  have c8 : Tryz.prog.cellsOf 24 = 8 := by kernel_rfl
  have c3 : Tryz.prog.cellsOf 3 = 1 := by kernel_rfl
  have c22 : Tryz.prog.cellsOf 22 = 1 := by kernel_rfl
  have c4 : Tryz.prog.cellsOf 4 = 1 := by kernel_rfl
  rw [c8] at hl
  have hsz' : xs.length = 8 := hsz
  obtain ⟨z0, z1, z2, z3, z4, z5, z6, z7, hc⟩ : ∃ z0 z1 z2 z3 z4 z5 z6 z7, cs = [z0, z1, z2, z3, z4, z5, z6, z7] := by
    match h : cs, hl with
    | [z0, z1, z2, z3, z4, z5, z6, z7], _ => exact ⟨z0, z1, z2, z3, z4, z5, z6, z7, rfl⟩
  have at_ : ∀ i, i < 8 → ∃ y, xs[i]? = some y := fun i hi => ⟨_, List.getElem?_eq_getElem (by omega)⟩
  have f : ∀ (i t o : Nat) (l : List Value), i < 8 → (∃ f, (#[{ name := "Op", type := 3, offset := 0, embedded := false, tag := "", pkgPath := "", byteOffset := 0 },
      { name := "Rd", type := 3, offset := 1, embedded := false, tag := "", pkgPath := "", byteOffset := 8 },
      { name := "Rs1", type := 3, offset := 2, embedded := false, tag := "", pkgPath := "", byteOffset := 16 },
      { name := "Rs2", type := 3, offset := 3, embedded := false, tag := "", pkgPath := "", byteOffset := 24 },
      { name := "CSR", type := 3, offset := 4, embedded := false, tag := "", pkgPath := "", byteOffset := 32 },
      { name := "Imm", type := 22, offset := 5, embedded := false, tag := "", pkgPath := "", byteOffset := 40 },
      { name := "Aq", type := 4, offset := 6, embedded := false, tag := "", pkgPath := "", byteOffset := 44 },
      { name := "Rl", type := 4, offset := 7, embedded := false, tag := "", pkgPath := "", byteOffset := 45 }] : Array Field)[i]? = some f ∧ f.type = t ∧ f.offset = o) → (cs.drop o).take (Tryz.prog.cellsOf t) = l → ∃ y, DataW.trod enc Tryz.prog W 0 (fun _ => true) true k t l = some y := by
    intro i t o l hi ⟨f, hf, ht, ho⟩ hl
    obtain ⟨y, hy⟩ := at_ i hi
    have := hel i f hf
    rw [ht, ho, hl, hy] at this
    exact ⟨y, this⟩
  obtain ⟨_, g0⟩ := f 0 3 0 [z0] (by decide) ⟨_, rfl, rfl, rfl⟩ (by rw [c3, hc]; rfl)
  obtain ⟨_, g1⟩ := f 1 3 1 [z1] (by decide) ⟨_, rfl, rfl, rfl⟩ (by rw [c3, hc]; rfl)
  obtain ⟨_, g2⟩ := f 2 3 2 [z2] (by decide) ⟨_, rfl, rfl, rfl⟩ (by rw [c3, hc]; rfl)
  obtain ⟨_, g3⟩ := f 3 3 3 [z3] (by decide) ⟨_, rfl, rfl, rfl⟩ (by rw [c3, hc]; rfl)
  obtain ⟨_, g4⟩ := f 4 3 4 [z4] (by decide) ⟨_, rfl, rfl, rfl⟩ (by rw [c3, hc]; rfl)
  obtain ⟨_, g5⟩ := f 5 22 5 [z5] (by decide) ⟨_, rfl, rfl, rfl⟩ (by rw [c22, hc]; rfl)
  obtain ⟨_, g6⟩ := f 6 4 6 [z6] (by decide) ⟨_, rfl, rfl, rfl⟩ (by rw [c4, hc]; rfl)
  obtain ⟨_, g7⟩ := f 7 4 7 [z7] (by decide) ⟨_, rfl, rfl, rfl⟩ (by rw [c4, hc]; rfl)
  obtain ⟨k0, rfl⟩ := int_cell g0
  obtain ⟨k1, rfl⟩ := int_cell g1
  obtain ⟨k2, rfl⟩ := int_cell g2
  obtain ⟨k3, rfl⟩ := int_cell g3
  obtain ⟨k4, rfl⟩ := int_cell g4
  obtain ⟨k5, rfl, h1, h2⟩ := word_cell g5
  obtain ⟨k6, rfl⟩ := bool_cell g6
  obtain ⟨k7, rfl⟩ := bool_cell g7
  exact ⟨⟨k0, k1, k2, k3, k4, k5, k6, k7⟩, hc, h1, h2⟩
set_option maxRecDepth 100000 in
theorem lifted (os : Os) (started : os.Started) (H : Type) (enc : TypeId × Value → H) :
    ReturnsInHanded {} Tryz.checked os 3 .any (fun w args => (Rows.asmSaysSpec.pre enc Tryz.prog Tryz.f3 [] false w args ∧ laidMetH Tryz.prog seatLaid w) ∧ sizedMet enc Tryz.prog Tryz.f3 (OpenSpec.ofChange Rows.asmSaysSpec) false w args)
      (Rows.asmSaysSpec.post enc Tryz.prog Tryz.f3 false true false false) := by
  refine returns_laid_shaped (C := Tryz.checked) (X := fun w _ => laidMetH Tryz.prog seatLaid w) (fun _ _ _ hh h => h.of_heap hh) own started (by kernel_rfl) Tryz.func3
    (ChangeSpec.witness_shaped (enc := enc) (C := Tryz.checked) (os := os) (X := fun w _ => laidMetH Tryz.prog seatLaid w) false (World.laidAll Tryz.prog os seatLaid) #[Ab.instV Ab.noInst, .string ⟨#[]⟩] 8 (World.laidAll_os _ _ _) (World.shaped_of_ZipB (by kernel_rfl) (by kernel_rfl)) (by kernel_rfl) (by kernel_rfl) (by kernel_rfl)
      (by rw [MakeChecks.laidMetH_plain _ _ _ (by kernel_rfl)]; exact laidMet_laidAll _ (by kernel_rfl) (by kernel_rfl))) ?_
  intro W base args ds gs before hval0 hW _ _ hL hsh
  rw [MakeChecks.laidMetH_plain _ _ _ (by kernel_rfl)] at hL
  have hgl := globs_of hL hsh
  have hval : ∀ (j : Nat) t v, Tryz.f3.params[j]? = some t → args[j]? = some v → Value.okWide Tryz.prog W .any base t v := hval0
  have hW' := hW
  obtain ⟨p, q, hA0, hV, rfl, hfz, hnd⟩ := hW
  have hA : DataW.TrodAll enc Tryz.prog W 0 (fun _ => true) true Tryz.f3.params.toList args.toList ds p := hA0
  rw [Tryz.params3] at hA hval
  obtain ⟨v0, vs0, d0, ds0, p0, q0, hargs, rfl, rfl, h0, r0⟩ := trodAll_cons hA
  obtain ⟨v1, vs1, d1, ds1, p1, q1, rfl, rfl, rfl, h1, r1⟩ := trodAll_cons r0
  obtain ⟨rfl, rfl, rfl⟩ := trodAll_nil r1
  obtain rfl : args = #[v0, v1] := by cases args; simp_all
  obtain ⟨rfl, rfl⟩ := trodVars_none hV
  have k0 := h0
  have lt0 : ∀ x ∈ p0, x.block < W.heap.size := by obtain ⟨m, hm⟩ := k0; exact DataW.trod_lt m _ _ _ hm
  have k1 := h1
  have lt1 : ∀ x ∈ p1, x.block < W.heap.size := by obtain ⟨m, hm⟩ := k1; exact DataW.trod_lt m _ _ _ hm
  obtain ⟨cs, rfl, _⟩ := okWide_struct Tryz.underlying24 (hval 0 24 v0 rfl rfl)
  obtain ⟨i, hi, hwf⟩ : ∃ i : Ab.Inst, cs = ⟨Ab.instC i⟩ ∧ i.wf := by
    obtain ⟨m, hm⟩ := h0
    obtain ⟨i, hi, hwf⟩ := inst_cells hm
    have hi : cs.toList = Ab.instC i := hi
    exact ⟨i, by rw [← hi], hwf⟩
  subst hi
  obtain ⟨s, rfl⟩ := okWide_string Tryz.underlying9 (hval 1 9 v1 rfl rfl)
  have run : Calls Tryz.prog 3 #[Ab.instV i, .string s] W fun e w' => e = .returned (.bool true) ∧ Below W.heap.size W w' :=
    (Ab.asmSaysOK i hwf s (Ab.Froz W) W [Ab.instV i, .string s] (fun _ _ _ h => h) hgl (Ab.plains_self rfl)).mono fun e w' ⟨Z', rv, he, hb, _, _, hv⟩ => by
      have := Ab.plain_eq (v := .bool true) rfl hv
      subst this
      exact ⟨he, hb⟩
  clear hA0 hval0
  refine run.mono fun e W' ⟨he, bel⟩ => ?_
  subst he
  exact ⟨_, rfl, _, _, _, [], _, [], hW', trodAll_mk1 (shut_bool Tryz.underlying4 _), (trodAll_cons_mk (Below.trod laidOut (by kernel_rfl) (of_decide_eq_true (by kernel_rfl)) k0 bel lt0) (trodAll_cons_mk (Below.trod laidOut (by kernel_rfl) (of_decide_eq_true (by kernel_rfl)) k1 bel lt1) trodAll_mk0)), rfl, bel.frame _, fun h => by cases h⟩
theorem over : Rows.asmSaysRow.holds Tryz.pinned (OpenSpec.ofChange Rows.asmSaysSpec) :=
  OpenClaim.holds_of_wide 3 Tryz.f3 rfl rfl rfl rfl rfl rfl rfl ⟨rfl, rfl, rfl, rfl, rfl⟩ rfl rfl rfl rfl rfl (by kernel_rfl) Tryz.func3 (by kernel_rfl)
    (of_decide_eq_true (by kernel_rfl)) (by unfold Func.isWrapper; first | (rw [if_pos (by decide +kernel)]; kernel_rfl) | (rw [if_neg (by decide +kernel)]; exact ⟨rfl, rfl⟩))
    (fun os started H enc _ => lifted os started H enc)
theorem card : Rows.AsmSaysCardSaid :=
  Claim7.holds_tied_plain_at .later [] [.data, .data, .data, .data, .sentinel, .sentinel, .sentinel, .sentinel, .sentinel, .sentinel, .sentinel, .sentinel, .sentinel, .sentinel, .sentinel, .sentinel, .sentinel, .pinned] true (true, "a67571bc19a2b5b1ae3230c41624e1bd2a14ad5d5704f28769ebb4e3b8d8a86f") true over (fun _ h => by cases h) (by kernel_rfl) (fun _ h => by cases h) asmSays_row_tie rfl ⟨rfl, rfl⟩ (by kernel_rfl) rfl
    (fun f fn hf hfn => by
      obtain rfl : f = 3 := Option.some.inj ((show Tryz.prog.funcNamed "corral/corrallaw5.AsmSays" = some 3 by kernel_rfl).symm.trans hf) |>.symm
      obtain rfl : fn = Tryz.f3 := (Option.some.inj (Tryz.func3.symm.trans hfn)).symm
      exact ⟨by kernel_rfl, fun j t ht => by
        rw [Tryz.params3] at ht
        have hm : t ∈ [24, 9] := by simpa using Array.mem_of_getElem? ht
        have hall : ([24, 9].all fun u => !Tryz.prog.wantsStandIn u) = true := by kernel_rfl
        exact (show Tryz.prog.wantsStandIn t = false by simpa using List.all_eq_true.1 hall t hm)⟩)
    (by kernel_rfl)
#print axioms card
end Go.Proofs.YtgkicojmgokinaaGreatDoor.asmSays
namespace Go.Proofs.YtgkicojmgokinaaGreatDoor
theorem asmSays_holds : Rows.AsmSaysCardSaid := asmSays.card
end Go.Proofs.YtgkicojmgokinaaGreatDoor
