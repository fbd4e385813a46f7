/- Rows told as they are built: what the loops of asm.Program, asm.Lines and the statements use. -/
import Derived.Test.YtgkicojmgokinaaGreatDoorAsmOneOk
import Derived.Test.YtgkicojmgokinaaGreatDoorAb22
namespace Go.Proofs.YtgkicojmgokinaaGreatDoor.Ab
open Go Go.RowKit
set_option linter.unusedVariables false
set_option linter.unusedSimpArgs false
set_option maxRecDepth 100000
abbrev Res := Option (Exit × List (Option Value) × Heap)
def nilV : Value := .slice none 0 0
def ptr (i : Nat) : Value := .pointer (some ⟨i, 0, none⟩)
def sl (i n z : Nat) : Value := .slice (some ⟨i, 0, none⟩) n z
def sliV (k n z : Nat) : Value := match n with
  | 0 => nilV
  | n + 1 => sl k (n + 1) z
def seeA (ts : List Nat) (e : Exit) (F : Fr) (H : Heap) : Res := some (e, ts.map F.get, H)
theorem RowOK.of_seeA {P : Program} {C : Ctx} (hC : CtxOK P C) {m j lo n f : Nat} {p : Nat → Bool} {l : List Code} {F F2 : Fr} {H H2 : Heap} {e : Exit} {ts : List Nat} (hts : F2.map (·.1) = ts) (hd : l.all (drawsOK (C.dr f)) = true)
    (h : runL (C.at_ f) (callK C m) j lo n f p l F H (seeA ts) = some (e, F2.map (fun e => some e.2), H2)) : RowOK P lo n l F H e F2 H2 := by
  subst hts
  obtain ⟨e1, F1, H1, h1, h2⟩ := runL_sound (hC.at_ f) (call := callK C m) (fun lo f args H K r h => callK_sound hC m lo f args H K r h) l hd F H _ h
  simp only [seeA, Option.some.injEq, Prod.mk.injEq] at h1
  obtain ⟨rfl, h3, rfl⟩ := h1
  exact h2.slots (see_slots h3)
def w64 (x : Int) : Int := IntKind.i64.wrap x
theorem w64_of {x : Int} (h0 : 0 ≤ x) (h1 : x < 9223372036854775808) : w64 x = x := by
  simp only [w64, IntKind.wrap, IntKind.bits, IntKind.signed]
  simp
  omega
/-- What is asked where one thing more is put behind a row. -/
def moreG (cells n z b : Nat) : Bool := Nat.beq cells (n * z) && (Nat.ble ((n + 1) * b) 140737488355328 && Nat.ble (n + 1) 9223372036854775807)
theorem moreG_eq {n z b m : Nat} (h : m = n * z) (hb : (n + 1) * b ≤ 140737488355328) (hn : n ≤ 1048577) : moreG m n z b = true := by
  subst h
  simp only [moreG, Bool.and_eq_true]
  exact ⟨by simp, Nat.ble_eq_true_of_le hb, Nat.ble_eq_true_of_le (by omega)⟩
theorem gh_int (k : IntKind) (n : Int) : Gh (.int k n) := Gh.plain rfl
theorem gh_str (s : ByteArray) : Gh (.string s) := Gh.plain rfl
/-! ### Rows of texts, of words -/
def LS (ss : List ByteArray) : Value := gs 1 (ss.map Value.string) ss.length
def LW (ws : List Int) : Value := gs 1 (ws.map (Value.int .u32)) ws.length
theorem strs_gh (l : List ByteArray) : ∀ x ∈ l.map Value.string, Gh x := fun x hx => by
  obtain ⟨n, _, rfl⟩ := List.mem_map.1 hx; exact gh_str _
theorem words_gh (l : List Int) : ∀ x ∈ l.map (Value.int .u32), Gh x := fun x hx => by
  obtain ⟨n, _, rfl⟩ := List.mem_map.1 hx; exact gh_int _ _
theorem LS_gh (ss : List ByteArray) : Gh (LS ss) := Gh.gs (strs_gh ss)
theorem LW_gh (ws : List Int) : Gh (LW ws) := Gh.gs (words_gh ws)
def ldS (xs : List ByteArray) (k : Nat) : Value := ((xs.map Value.string).drop (k * 1)).getD 0 undef
def ldSG (xs : List ByteArray) (k : Nat) (z : Res) : Res := bif decide (Int.ofNat k < Int.ofNat xs.length) && true then bif Nat.blt 0 ((xs.map Value.string).drop (k * 1)).length && isStr (ldS xs k) then z else none else none
def noS : ByteArray := ⟨#[]⟩
theorem ldS_eq {xs : List ByteArray} {k : Nat} (h : k < xs.length) : ldS xs k = .string (xs.getD k noS) := by
  unfold ldS
  rw [Nat.mul_one, List.getD_eq_getElem?_getD, List.getElem?_drop, Nat.add_zero, List.getElem?_map, List.getElem?_eq_getElem h, List.getD_eq_getElem?_getD, List.getElem?_eq_getElem h]; rfl
theorem ldSG_eq {xs : List ByteArray} {k : Nat} (h : k < xs.length) (z : Res) : ldSG xs k z = z := by
  unfold ldSG
  rw [ldS_eq h, show (decide (Int.ofNat k < Int.ofNat xs.length) && true) = true by rw [Bool.and_true]; exact decide_eq_true (by simp; omega),
    show (Nat.blt 0 ((xs.map Value.string).drop (k * 1)).length && isStr (.string (xs.getD k noS))) = true by
      rw [Bool.and_eq_true]; exact ⟨by rw [Nat.blt_eq]; simp; omega, rfl⟩]
  rfl
/-! ### What a pure call answers -/
noncomputable def isPure (f : FuncId) (args : List Value) (v : Value) : Bool := @decide (PureOK Tryz.prog f args v ∧ ∀ a ∈ args, Gh a) (Classical.propDecidable _)
theorem isPure_of {f : FuncId} {args : List Value} {v : Value} (h : PureOK Tryz.prog f args v) (hg : ∀ a ∈ args, Gh a) : isPure f args v = true := @decide_eq_true _ (Classical.propDecidable _) ⟨h, hg⟩
theorem isPure_call {f : FuncId} {args : List Value} {v : Value} (h : true = isPure f args v) (lo : Nat) (H : Heap) : CallOK Tryz.prog lo f args H v H :=
  have h := @of_decide_eq_true _ (Classical.propDecidable _) h.symm
  h.1.call h.2 lo H
/-! ### A region of corralsee.fault's in another order; pieces of which the memory is not told behind -/
def drs2 (f : FuncId) (r : Nat) : Draw := bif Nat.beq f 84 && Nat.beq r 9 then .two [2] [0, 1, 3, 4, 5, 7, 8] [6, 9] [10, 11] else drs f r
noncomputable def ctx2 (Φ : Oracle) : Ctx := { ctx Φ with dr := drs2 }
theorem dr84 : drawsOK (drs2 84) (bodyOf 84) = true := by kernel_rfl
theorem drs2_ne {f : FuncId} (h : f ≠ 84) : drs2 f = drs f := by
  funext r
  unfold drs2
  have : Nat.beq f 84 = false := by
    cases hb : Nat.beq f 84 with
    | false => rfl
    | true => exact absurd (Nat.eq_of_beq_eq_true hb) h
  rw [this]; rfl
theorem ctx2OK {Φ : Oracle} (h : CtxOK Tryz.prog (ctx Φ)) : CtxOK Tryz.prog (ctx2 Φ) := by
  refine ⟨h.tab, h.mix, fun f fn hf => ?_, h.known⟩
  obtain ⟨h1, h2, h3⟩ := h.fn f fn hf
  refine ⟨h1, h2, fun c hc => ?_⟩
  by_cases hf84 : f = 84
  · subst hf84
    have hb : bodyOf 84 = c := by
      have hf' : fns 84 = some fn := hf
      simp only [bodyOf, hf', hc]
    rw [← hb]
    exact dr84
  · show drawsOK (drs2 f) c = true
    rw [drs2_ne hf84]
    exact h3 c hc
def seeV (ts : List Nat) (e : Exit) (F : Fr) (H : Heap) : Res := some (e, ts.map F.get, [])
theorem GoOK.of_seeV {P : Program} {C : Ctx} (hC : CtxOK P C) {m j n f : Nat} {p : Nat → Bool} {l : List Code} {F F2 : Fr} {H : Heap} {e : Exit} {ts : List Nat} (hts : F2.map (·.1) = ts) (hd : l.all (drawsOK (C.dr f)) = true)
    (h : runL (C.at_ f) (callK C m) j 0 n f p l F H (seeV ts) = some (e, F2.map (fun e => some e.2), [])) (hg : ∀ x ∈ F2, Gh x.2) : GoOK P 0 0 n l F H e F2 [] := by
  subst hts
  obtain ⟨e1, F1, H1, h1, h2⟩ := runL_sound (hC.at_ f) (call := callK C m) (fun lo f args H K r h => callK_sound hC m lo f args H K r h) l hd F H _ h
  simp only [seeV, Option.some.injEq, Prod.mk.injEq, and_true] at h1
  obtain ⟨rfl, h3⟩ := h1
  have hs := see_slots h3
  exact GoOK.freeze (RowOK.go h2) fun x hx => ⟨x.2, hs x hx, .inl ⟨rfl, hg x hx⟩⟩
end Go.Proofs.YtgkicojmgokinaaGreatDoor.Ab
