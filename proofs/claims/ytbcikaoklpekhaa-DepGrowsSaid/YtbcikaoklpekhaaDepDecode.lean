/- isa.Decode told for every word. Written by gen_dec.py. -/
import Derived.Test.YtbcikaoklpekhaaDepIsa
import Derived.Test.YtbcikaoklpekhaaAb18
namespace Go.Proofs.Ytbcikaoklpekhaa.Ab
open Go Go.RowKit
set_option linter.unusedVariables false
set_option linter.unusedSimpArgs false
set_option maxRecDepth 100000
/-- The table as it lies in memory. -/
def litCells : List Value := [.int .i64 1, .string ⟨#[108, 117, 105]⟩, .int .i64 0, .int .u32 55, .int .u32 0, .int .u32 0, .int .i64 1, .int .i64 2, .string ⟨#[97, 117, 105, 112, 99]⟩, .int .i64 0, .int .u32 23, .int .u32 0, .int .u32 0, .int .i64 1, .int .i64 3, .string ⟨#[106, 97, 108]⟩, .int .i64 1, .int .u32 111, .int .u32 0, .int .u32 0, .int .i64 2, .int .i64 4, .string ⟨#[106, 97, 108, 114]⟩, .int .i64 2, .int .u32 103, .int .u32 0, .int .u32 0, .int .i64 2, .int .i64 5, .string ⟨#[98, 101, 113]⟩, .int .i64 3, .int .u32 99, .int .u32 0, .int .u32 0, .int .i64 3, .int .i64 6, .string ⟨#[98, 110, 101]⟩, .int .i64 3, .int .u32 99, .int .u32 1, .int .u32 0, .int .i64 3, .int .i64 7, .string ⟨#[98, 108, 116]⟩, .int .i64 3, .int .u32 99, .int .u32 4, .int .u32 0, .int .i64 3, .int .i64 8, .string ⟨#[98, 103, 101]⟩, .int .i64 3, .int .u32 99, .int .u32 5, .int .u32 0, .int .i64 3, .int .i64 9, .string ⟨#[98, 108, 116, 117]⟩, .int .i64 3, .int .u32 99, .int .u32 6, .int .u32 0, .int .i64 3, .int .i64 10, .string ⟨#[98, 103, 101, 117]⟩, .int .i64 3, .int .u32 99, .int .u32 7, .int .u32 0, .int .i64 3, .int .i64 11, .string ⟨#[108, 98]⟩, .int .i64 2, .int .u32 3, .int .u32 0, .int .u32 0, .int .i64 4, .int .i64 12, .string ⟨#[108, 104]⟩, .int .i64 2, .int .u32 3, .int .u32 1, .int .u32 0, .int .i64 4, .int .i64 13, .string ⟨#[108, 119]⟩, .int .i64 2, .int .u32 3, .int .u32 2, .int .u32 0, .int .i64 4, .int .i64 14, .string ⟨#[108, 98, 117]⟩, .int .i64 2, .int .u32 3, .int .u32 4, .int .u32 0, .int .i64 4, .int .i64 15, .string ⟨#[108, 104, 117]⟩, .int .i64 2, .int .u32 3, .int .u32 5, .int .u32 0, .int .i64 4, .int .i64 16, .string ⟨#[115, 98]⟩, .int .i64 4, .int .u32 35, .int .u32 0, .int .u32 0, .int .i64 5, .int .i64 17, .string ⟨#[115, 104]⟩, .int .i64 4, .int .u32 35, .int .u32 1, .int .u32 0, .int .i64 5, .int .i64 18, .string ⟨#[115, 119]⟩, .int .i64 4, .int .u32 35, .int .u32 2, .int .u32 0, .int .i64 5, .int .i64 19, .string ⟨#[97, 100, 100, 105]⟩, .int .i64 2, .int .u32 19, .int .u32 0, .int .u32 0, .int .i64 1, .int .i64 20, .string ⟨#[115, 108, 116, 105]⟩, .int .i64 2, .int .u32 19, .int .u32 2, .int .u32 0, .int .i64 1, .int .i64 21, .string ⟨#[115, 108, 116, 105, 117]⟩, .int .i64 2, .int .u32 19, .int .u32 3, .int .u32 0, .int .i64 1, .int .i64 22, .string ⟨#[120, 111, 114, 105]⟩, .int .i64 2, .int .u32 19, .int .u32 4, .int .u32 0, .int .i64 1, .int .i64 23, .string ⟨#[111, 114, 105]⟩, .int .i64 2, .int .u32 19, .int .u32 6, .int .u32 0, .int .i64 1, .int .i64 24, .string ⟨#[97, 110, 100, 105]⟩, .int .i64 2, .int .u32 19, .int .u32 7, .int .u32 0, .int .i64 1, .int .i64 25, .string ⟨#[115, 108, 108, 105]⟩, .int .i64 5, .int .u32 19, .int .u32 1, .int .u32 0, .int .i64 1, .int .i64 26, .string ⟨#[115, 114, 108, 105]⟩, .int .i64 5, .int .u32 19, .int .u32 5, .int .u32 0, .int .i64 1, .int .i64 27, .string ⟨#[115, 114, 97, 105]⟩, .int .i64 5, .int .u32 19, .int .u32 5, .int .u32 32, .int .i64 1, .int .i64 28, .string ⟨#[97, 100, 100]⟩, .int .i64 6, .int .u32 51, .int .u32 0, .int .u32 0, .int .i64 1, .int .i64 29, .string ⟨#[115, 117, 98]⟩, .int .i64 6, .int .u32 51, .int .u32 0, .int .u32 32, .int .i64 1, .int .i64 30, .string ⟨#[115, 108, 108]⟩, .int .i64 6, .int .u32 51, .int .u32 1, .int .u32 0, .int .i64 1, .int .i64 31, .string ⟨#[115, 108, 116]⟩, .int .i64 6, .int .u32 51, .int .u32 2, .int .u32 0, .int .i64 1, .int .i64 32, .string ⟨#[115, 108, 116, 117]⟩, .int .i64 6, .int .u32 51, .int .u32 3, .int .u32 0, .int .i64 1, .int .i64 33, .string ⟨#[120, 111, 114]⟩, .int .i64 6, .int .u32 51, .int .u32 4, .int .u32 0, .int .i64 1, .int .i64 34, .string ⟨#[115, 114, 108]⟩, .int .i64 6, .int .u32 51, .int .u32 5, .int .u32 0, .int .i64 1, .int .i64 35, .string ⟨#[115, 114, 97]⟩, .int .i64 6, .int .u32 51, .int .u32 5, .int .u32 32, .int .i64 1, .int .i64 36, .string ⟨#[111, 114]⟩, .int .i64 6, .int .u32 51, .int .u32 6, .int .u32 0, .int .i64 1, .int .i64 37, .string ⟨#[97, 110, 100]⟩, .int .i64 6, .int .u32 51, .int .u32 7, .int .u32 0, .int .i64 1, .int .i64 38, .string ⟨#[102, 101, 110, 99, 101]⟩, .int .i64 7, .int .u32 15, .int .u32 0, .int .u32 0, .int .i64 7, .int .i64 39, .string ⟨#[102, 101, 110, 99, 101, 46, 105]⟩, .int .i64 8, .int .u32 4111, .int .u32 0, .int .u32 0, .int .i64 7, .int .i64 40, .string ⟨#[101, 99, 97, 108, 108]⟩, .int .i64 8, .int .u32 115, .int .u32 0, .int .u32 0, .int .i64 7, .int .i64 41, .string ⟨#[101, 98, 114, 101, 97, 107]⟩, .int .i64 8, .int .u32 1048691, .int .u32 0, .int .u32 0, .int .i64 7, .int .i64 42, .string ⟨#[109, 114, 101, 116]⟩, .int .i64 8, .int .u32 807403635, .int .u32 0, .int .u32 0, .int .i64 7, .int .i64 43, .string ⟨#[119, 102, 105]⟩, .int .i64 8, .int .u32 273678451, .int .u32 0, .int .u32 0, .int .i64 7, .int .i64 44, .string ⟨#[115, 102, 101, 110, 99, 101, 46, 118, 109, 97]⟩, .int .i64 9, .int .u32 115, .int .u32 0, .int .u32 9, .int .i64 7, .int .i64 45, .string ⟨#[99, 115, 114, 114, 119]⟩, .int .i64 10, .int .u32 115, .int .u32 1, .int .u32 0, .int .i64 7, .int .i64 46, .string ⟨#[99, 115, 114, 114, 115]⟩, .int .i64 10, .int .u32 115, .int .u32 2, .int .u32 0, .int .i64 7, .int .i64 47, .string ⟨#[99, 115, 114, 114, 99]⟩, .int .i64 10, .int .u32 115, .int .u32 3, .int .u32 0, .int .i64 7, .int .i64 48, .string ⟨#[99, 115, 114, 114, 119, 105]⟩, .int .i64 11, .int .u32 115, .int .u32 5, .int .u32 0, .int .i64 7, .int .i64 49, .string ⟨#[99, 115, 114, 114, 115, 105]⟩, .int .i64 11, .int .u32 115, .int .u32 6, .int .u32 0, .int .i64 7, .int .i64 50, .string ⟨#[99, 115, 114, 114, 99, 105]⟩, .int .i64 11, .int .u32 115, .int .u32 7, .int .u32 0, .int .i64 7, .int .i64 51, .string ⟨#[109, 117, 108]⟩, .int .i64 6, .int .u32 51, .int .u32 0, .int .u32 1, .int .i64 1, .int .i64 52, .string ⟨#[109, 117, 108, 104]⟩, .int .i64 6, .int .u32 51, .int .u32 1, .int .u32 1, .int .i64 1, .int .i64 53, .string ⟨#[109, 117, 108, 104, 115, 117]⟩, .int .i64 6, .int .u32 51, .int .u32 2, .int .u32 1, .int .i64 1, .int .i64 54, .string ⟨#[109, 117, 108, 104, 117]⟩, .int .i64 6, .int .u32 51, .int .u32 3, .int .u32 1, .int .i64 1, .int .i64 55, .string ⟨#[100, 105, 118]⟩, .int .i64 6, .int .u32 51, .int .u32 4, .int .u32 1, .int .i64 1, .int .i64 56, .string ⟨#[100, 105, 118, 117]⟩, .int .i64 6, .int .u32 51, .int .u32 5, .int .u32 1, .int .i64 1, .int .i64 57, .string ⟨#[114, 101, 109]⟩, .int .i64 6, .int .u32 51, .int .u32 6, .int .u32 1, .int .i64 1, .int .i64 58, .string ⟨#[114, 101, 109, 117]⟩, .int .i64 6, .int .u32 51, .int .u32 7, .int .u32 1, .int .i64 1, .int .i64 59, .string ⟨#[108, 114, 46, 119]⟩, .int .i64 12, .int .u32 47, .int .u32 2, .int .u32 2, .int .i64 4, .int .i64 60, .string ⟨#[115, 99, 46, 119]⟩, .int .i64 13, .int .u32 47, .int .u32 2, .int .u32 3, .int .i64 6, .int .i64 61, .string ⟨#[97, 109, 111, 115, 119, 97, 112, 46, 119]⟩, .int .i64 13, .int .u32 47, .int .u32 2, .int .u32 1, .int .i64 6, .int .i64 62, .string ⟨#[97, 109, 111, 97, 100, 100, 46, 119]⟩, .int .i64 13, .int .u32 47, .int .u32 2, .int .u32 0, .int .i64 6, .int .i64 63, .string ⟨#[97, 109, 111, 120, 111, 114, 46, 119]⟩, .int .i64 13, .int .u32 47, .int .u32 2, .int .u32 4, .int .i64 6, .int .i64 64, .string ⟨#[97, 109, 111, 97, 110, 100, 46, 119]⟩, .int .i64 13, .int .u32 47, .int .u32 2, .int .u32 12, .int .i64 6, .int .i64 65, .string ⟨#[97, 109, 111, 111, 114, 46, 119]⟩, .int .i64 13, .int .u32 47, .int .u32 2, .int .u32 8, .int .i64 6, .int .i64 66, .string ⟨#[97, 109, 111, 109, 105, 110, 46, 119]⟩, .int .i64 13, .int .u32 47, .int .u32 2, .int .u32 16, .int .i64 6, .int .i64 67, .string ⟨#[97, 109, 111, 109, 97, 120, 46, 119]⟩, .int .i64 13, .int .u32 47, .int .u32 2, .int .u32 20, .int .i64 6, .int .i64 68, .string ⟨#[97, 109, 111, 109, 105, 110, 117, 46, 119]⟩, .int .i64 13, .int .u32 47, .int .u32 2, .int .u32 24, .int .i64 6, .int .i64 69, .string ⟨#[97, 109, 111, 109, 97, 120, 117, 46, 119]⟩, .int .i64 13, .int .u32 47, .int .u32 2, .int .u32 28, .int .i64 6]
theorem lit_gh : ∀ x ∈ litCells, Gh x := gh_plains (by kernel_rfl)
theorem rowsOK : PureOK Try.prog 33 [] (gs 7 litCells 69) :=
  PureOK.of_run noOK (show callK (ctx noΦ) 20 0 33 [] [] (fun v _ => some v) = some (gs 7 litCells 69) by kernel_rfl) (Gh.gs lit_gh)
noncomputable def bodyOf (f : FuncId) : Code := match fns f with
  | some fn => match fn.body with
    | some c => c
    | none => .skip
  | none => .skip
noncomputable def sigOf (f : FuncId) : Option (Nat × List ResultVar) := match fns f with | some fn => (match fn.body with | some _ => some (fn.ntmps, fn.results.toList) | none => none) | none => none
theorem fnOf {f n : Nat} {rs : List ResultVar} (h : sigOf f = some (n, rs)) : ∃ fn, fns f = some fn ∧ fn.body = some (bodyOf f) ∧ fn.ntmps = n ∧ fn.results.toList = rs := by
  unfold sigOf at h
  cases hf : fns f with
  | none => rw [hf] at h; cases h
  | some fn =>
    rw [hf] at h
    cases hb : fn.body with
    | none => simp only [hb] at h; cases h
    | some c =>
      simp only [hb, Option.some.injEq, Prod.mk.injEq] at h
      exact ⟨fn, rfl, by simp only [bodyOf, hf, hb], h.1, h.2⟩
theorem fn25 : sigOf 25 = some (20, [.cell 2 53, .tmp 3]) := by kernel_rfl
def loopIn : Option Code → Code
  | some (.block _ (.loop b)) => b
  | some (.loop b) => b
  | _ => .skip
noncomputable def dcB : Code := loopIn (flat (bodyOf 25))[2]?
noncomputable def decΨ (B : Int → Int → Int → Int → Int → Bool) (D : Int → Int → Int → Inst) : Oracle := fun lo f args H => match f with
  | 33 => match args with
    | [] => some [(true, gs 7 litCells 69, H)]
    | _ => none
  | 34 => match args with
    | [.agg ⟨[.int .i64 op, .string s, .int .i64 k, .int .u32 opc, .int .u32 f3, .int .u32 f7, .int .i64 kind]⟩, .int .u32 w] => some [(decide (0 ≤ k) && decide (k ≤ 13), .bool (B k opc f3 f7 w), H)]
    | _ => none
  | 35 => match args with
    | [.agg ⟨[.int .i64 op, .string s, .int .i64 k, .int .u32 opc, .int .u32 f3, .int .u32 f7, .int .i64 kind]⟩, .int .u32 w] => some [(decide (0 ≤ k) && decide (k ≤ 13), instV (D k op w), H)]
    | _ => none
  | _ => none
noncomputable def dcF (w : Int) (k : Nat) (b : Bool) : Fr := [(0, .int .u32 w), (2, .pointer (some ⟨0, 0, none⟩)), (3, .bool b), (6, gs 7 litCells 69), (7, .int .i64 69), (8, .int .i64 (Int.ofNat k))]
def dcK : List Nat := [0, 2, 3, 6, 7, 8]
def instC (i : Inst) : List Value := [.int .i64 i.op, .int .i64 i.rd, .int .i64 i.rs1, .int .i64 i.rs2, .int .i64 i.csr, .int .u32 i.imm, .bool i.aq, .bool i.rl]
def noInst : Inst := ⟨0, 0, 0, 0, 0, 0, false, false⟩
def dcH (i : Inst) : Heap := [some ⟨instC i, 53, none⟩]
def rowAt (k : Nat) : Row := table.getD k ⟨0, 0, 0, 0, 0, 0⟩
noncomputable def dcL (B : Int → Int → Int → Int → Int → Bool) (D : Int → Int → Int → Inst) (w : Int) (k : Nat) : Option (Exit × List (Option Value) × Heap) :=
  runL ((ctx (decΨ B D)).at_ 25) (callK (ctx (decΨ B D)) 20) 20 0 20 25 (keeps 25) (flat dcB) (dcF w k false) (dcH noInst) (see dcK 1)
noncomputable def dcR (B : Int → Int → Int → Int → Int → Bool) (D : Int → Int → Int → Inst) (w : Int) (k : Nat) : Option (Exit × List (Option Value) × Heap) :=
  bif B (rowAt k).form (rowAt k).opc (rowAt k).f3 (rowAt k).f7 w then some (.ret, (dcF w k true).map (fun e => some e.2), dcH (D (rowAt k).form (rowAt k).op w)) else some (.normal, (dcF w (k + 1) false).map (fun e => some e.2), dcH noInst)
theorem dc_head (B : Int → Int → Int → Int → Int → Bool) (D : Int → Int → Int → Inst) (w : Int) : runL ((ctx (decΨ B D)).at_ 25) (callK (ctx (decΨ B D)) 20) 20 0 20 25 (keeps 25) ((flat (bodyOf 25)).take 2) (enterF 0 [.int .u32 w]) [] (see dcK 1) = some (.normal, (dcF w 0 false).map (fun e => some e.2), dcH noInst) := by kernel_rfl
theorem dc_end (B : Int → Int → Int → Int → Int → Bool) (D : Int → Int → Int → Inst) (w : Int) : runL ((ctx (decΨ B D)).at_ 25) (callK (ctx (decΨ B D)) 20) 20 0 20 25 (keeps 25) (flat dcB) (dcF w 69 false) (dcH noInst) (see dcK 1) = some (.exit 0, (dcF w 69 false).map (fun e => some e.2), dcH noInst) := by kernel_rfl
theorem dc_tail (B : Int → Int → Int → Int → Int → Bool) (D : Int → Int → Int → Inst) (w : Int) : runL ((ctx (decΨ B D)).at_ 25) (callK (ctx (decΨ B D)) 20) 20 0 20 25 (keeps 25) ((flat (bodyOf 25)).drop 3) (dcF w 69 false) (dcH noInst) (see dcK 1) = some (.ret, (dcF w 69 false).map (fun e => some e.2), dcH noInst) := by kernel_rfl
theorem dc_flat : flat (bodyOf 25) = (flat (bodyOf 25)).take 2 ++ ([.block 0 (.loop dcB)] ++ (flat (bodyOf 25)).drop 3) := by kernel_rfl
theorem rnd0 (B : Int → Int → Int → Int → Int → Bool) (D : Int → Int → Int → Inst) (w : Int) : dcL B D w 0 = dcR B D w 0 := by kernel_rfl
theorem rnd1 (B : Int → Int → Int → Int → Int → Bool) (D : Int → Int → Int → Inst) (w : Int) : dcL B D w 1 = dcR B D w 1 := by kernel_rfl
theorem rnd2 (B : Int → Int → Int → Int → Int → Bool) (D : Int → Int → Int → Inst) (w : Int) : dcL B D w 2 = dcR B D w 2 := by kernel_rfl
theorem rnd3 (B : Int → Int → Int → Int → Int → Bool) (D : Int → Int → Int → Inst) (w : Int) : dcL B D w 3 = dcR B D w 3 := by kernel_rfl
theorem rnd4 (B : Int → Int → Int → Int → Int → Bool) (D : Int → Int → Int → Inst) (w : Int) : dcL B D w 4 = dcR B D w 4 := by kernel_rfl
theorem rnd5 (B : Int → Int → Int → Int → Int → Bool) (D : Int → Int → Int → Inst) (w : Int) : dcL B D w 5 = dcR B D w 5 := by kernel_rfl
theorem rnd6 (B : Int → Int → Int → Int → Int → Bool) (D : Int → Int → Int → Inst) (w : Int) : dcL B D w 6 = dcR B D w 6 := by kernel_rfl
theorem rnd7 (B : Int → Int → Int → Int → Int → Bool) (D : Int → Int → Int → Inst) (w : Int) : dcL B D w 7 = dcR B D w 7 := by kernel_rfl
theorem rnd8 (B : Int → Int → Int → Int → Int → Bool) (D : Int → Int → Int → Inst) (w : Int) : dcL B D w 8 = dcR B D w 8 := by kernel_rfl
theorem rnd9 (B : Int → Int → Int → Int → Int → Bool) (D : Int → Int → Int → Inst) (w : Int) : dcL B D w 9 = dcR B D w 9 := by kernel_rfl
theorem rnd10 (B : Int → Int → Int → Int → Int → Bool) (D : Int → Int → Int → Inst) (w : Int) : dcL B D w 10 = dcR B D w 10 := by kernel_rfl
theorem rnd11 (B : Int → Int → Int → Int → Int → Bool) (D : Int → Int → Int → Inst) (w : Int) : dcL B D w 11 = dcR B D w 11 := by kernel_rfl
theorem rnd12 (B : Int → Int → Int → Int → Int → Bool) (D : Int → Int → Int → Inst) (w : Int) : dcL B D w 12 = dcR B D w 12 := by kernel_rfl
theorem rnd13 (B : Int → Int → Int → Int → Int → Bool) (D : Int → Int → Int → Inst) (w : Int) : dcL B D w 13 = dcR B D w 13 := by kernel_rfl
theorem rnd14 (B : Int → Int → Int → Int → Int → Bool) (D : Int → Int → Int → Inst) (w : Int) : dcL B D w 14 = dcR B D w 14 := by kernel_rfl
theorem rnd15 (B : Int → Int → Int → Int → Int → Bool) (D : Int → Int → Int → Inst) (w : Int) : dcL B D w 15 = dcR B D w 15 := by kernel_rfl
theorem rnd16 (B : Int → Int → Int → Int → Int → Bool) (D : Int → Int → Int → Inst) (w : Int) : dcL B D w 16 = dcR B D w 16 := by kernel_rfl
theorem rnd17 (B : Int → Int → Int → Int → Int → Bool) (D : Int → Int → Int → Inst) (w : Int) : dcL B D w 17 = dcR B D w 17 := by kernel_rfl
theorem rnd18 (B : Int → Int → Int → Int → Int → Bool) (D : Int → Int → Int → Inst) (w : Int) : dcL B D w 18 = dcR B D w 18 := by kernel_rfl
theorem rnd19 (B : Int → Int → Int → Int → Int → Bool) (D : Int → Int → Int → Inst) (w : Int) : dcL B D w 19 = dcR B D w 19 := by kernel_rfl
theorem rnd20 (B : Int → Int → Int → Int → Int → Bool) (D : Int → Int → Int → Inst) (w : Int) : dcL B D w 20 = dcR B D w 20 := by kernel_rfl
theorem rnd21 (B : Int → Int → Int → Int → Int → Bool) (D : Int → Int → Int → Inst) (w : Int) : dcL B D w 21 = dcR B D w 21 := by kernel_rfl
theorem rnd22 (B : Int → Int → Int → Int → Int → Bool) (D : Int → Int → Int → Inst) (w : Int) : dcL B D w 22 = dcR B D w 22 := by kernel_rfl
theorem rnd23 (B : Int → Int → Int → Int → Int → Bool) (D : Int → Int → Int → Inst) (w : Int) : dcL B D w 23 = dcR B D w 23 := by kernel_rfl
theorem rnd24 (B : Int → Int → Int → Int → Int → Bool) (D : Int → Int → Int → Inst) (w : Int) : dcL B D w 24 = dcR B D w 24 := by kernel_rfl
theorem rnd25 (B : Int → Int → Int → Int → Int → Bool) (D : Int → Int → Int → Inst) (w : Int) : dcL B D w 25 = dcR B D w 25 := by kernel_rfl
theorem rnd26 (B : Int → Int → Int → Int → Int → Bool) (D : Int → Int → Int → Inst) (w : Int) : dcL B D w 26 = dcR B D w 26 := by kernel_rfl
theorem rnd27 (B : Int → Int → Int → Int → Int → Bool) (D : Int → Int → Int → Inst) (w : Int) : dcL B D w 27 = dcR B D w 27 := by kernel_rfl
theorem rnd28 (B : Int → Int → Int → Int → Int → Bool) (D : Int → Int → Int → Inst) (w : Int) : dcL B D w 28 = dcR B D w 28 := by kernel_rfl
theorem rnd29 (B : Int → Int → Int → Int → Int → Bool) (D : Int → Int → Int → Inst) (w : Int) : dcL B D w 29 = dcR B D w 29 := by kernel_rfl
theorem rnd30 (B : Int → Int → Int → Int → Int → Bool) (D : Int → Int → Int → Inst) (w : Int) : dcL B D w 30 = dcR B D w 30 := by kernel_rfl
theorem rnd31 (B : Int → Int → Int → Int → Int → Bool) (D : Int → Int → Int → Inst) (w : Int) : dcL B D w 31 = dcR B D w 31 := by kernel_rfl
theorem rnd32 (B : Int → Int → Int → Int → Int → Bool) (D : Int → Int → Int → Inst) (w : Int) : dcL B D w 32 = dcR B D w 32 := by kernel_rfl
theorem rnd33 (B : Int → Int → Int → Int → Int → Bool) (D : Int → Int → Int → Inst) (w : Int) : dcL B D w 33 = dcR B D w 33 := by kernel_rfl
theorem rnd34 (B : Int → Int → Int → Int → Int → Bool) (D : Int → Int → Int → Inst) (w : Int) : dcL B D w 34 = dcR B D w 34 := by kernel_rfl
theorem rnd35 (B : Int → Int → Int → Int → Int → Bool) (D : Int → Int → Int → Inst) (w : Int) : dcL B D w 35 = dcR B D w 35 := by kernel_rfl
theorem rnd36 (B : Int → Int → Int → Int → Int → Bool) (D : Int → Int → Int → Inst) (w : Int) : dcL B D w 36 = dcR B D w 36 := by kernel_rfl
theorem rnd37 (B : Int → Int → Int → Int → Int → Bool) (D : Int → Int → Int → Inst) (w : Int) : dcL B D w 37 = dcR B D w 37 := by kernel_rfl
theorem rnd38 (B : Int → Int → Int → Int → Int → Bool) (D : Int → Int → Int → Inst) (w : Int) : dcL B D w 38 = dcR B D w 38 := by kernel_rfl
theorem rnd39 (B : Int → Int → Int → Int → Int → Bool) (D : Int → Int → Int → Inst) (w : Int) : dcL B D w 39 = dcR B D w 39 := by kernel_rfl
theorem rnd40 (B : Int → Int → Int → Int → Int → Bool) (D : Int → Int → Int → Inst) (w : Int) : dcL B D w 40 = dcR B D w 40 := by kernel_rfl
theorem rnd41 (B : Int → Int → Int → Int → Int → Bool) (D : Int → Int → Int → Inst) (w : Int) : dcL B D w 41 = dcR B D w 41 := by kernel_rfl
theorem rnd42 (B : Int → Int → Int → Int → Int → Bool) (D : Int → Int → Int → Inst) (w : Int) : dcL B D w 42 = dcR B D w 42 := by kernel_rfl
theorem rnd43 (B : Int → Int → Int → Int → Int → Bool) (D : Int → Int → Int → Inst) (w : Int) : dcL B D w 43 = dcR B D w 43 := by kernel_rfl
theorem rnd44 (B : Int → Int → Int → Int → Int → Bool) (D : Int → Int → Int → Inst) (w : Int) : dcL B D w 44 = dcR B D w 44 := by kernel_rfl
theorem rnd45 (B : Int → Int → Int → Int → Int → Bool) (D : Int → Int → Int → Inst) (w : Int) : dcL B D w 45 = dcR B D w 45 := by kernel_rfl
theorem rnd46 (B : Int → Int → Int → Int → Int → Bool) (D : Int → Int → Int → Inst) (w : Int) : dcL B D w 46 = dcR B D w 46 := by kernel_rfl
theorem rnd47 (B : Int → Int → Int → Int → Int → Bool) (D : Int → Int → Int → Inst) (w : Int) : dcL B D w 47 = dcR B D w 47 := by kernel_rfl
theorem rnd48 (B : Int → Int → Int → Int → Int → Bool) (D : Int → Int → Int → Inst) (w : Int) : dcL B D w 48 = dcR B D w 48 := by kernel_rfl
theorem rnd49 (B : Int → Int → Int → Int → Int → Bool) (D : Int → Int → Int → Inst) (w : Int) : dcL B D w 49 = dcR B D w 49 := by kernel_rfl
theorem rnd50 (B : Int → Int → Int → Int → Int → Bool) (D : Int → Int → Int → Inst) (w : Int) : dcL B D w 50 = dcR B D w 50 := by kernel_rfl
theorem rnd51 (B : Int → Int → Int → Int → Int → Bool) (D : Int → Int → Int → Inst) (w : Int) : dcL B D w 51 = dcR B D w 51 := by kernel_rfl
theorem rnd52 (B : Int → Int → Int → Int → Int → Bool) (D : Int → Int → Int → Inst) (w : Int) : dcL B D w 52 = dcR B D w 52 := by kernel_rfl
theorem rnd53 (B : Int → Int → Int → Int → Int → Bool) (D : Int → Int → Int → Inst) (w : Int) : dcL B D w 53 = dcR B D w 53 := by kernel_rfl
theorem rnd54 (B : Int → Int → Int → Int → Int → Bool) (D : Int → Int → Int → Inst) (w : Int) : dcL B D w 54 = dcR B D w 54 := by kernel_rfl
theorem rnd55 (B : Int → Int → Int → Int → Int → Bool) (D : Int → Int → Int → Inst) (w : Int) : dcL B D w 55 = dcR B D w 55 := by kernel_rfl
theorem rnd56 (B : Int → Int → Int → Int → Int → Bool) (D : Int → Int → Int → Inst) (w : Int) : dcL B D w 56 = dcR B D w 56 := by kernel_rfl
theorem rnd57 (B : Int → Int → Int → Int → Int → Bool) (D : Int → Int → Int → Inst) (w : Int) : dcL B D w 57 = dcR B D w 57 := by kernel_rfl
theorem rnd58 (B : Int → Int → Int → Int → Int → Bool) (D : Int → Int → Int → Inst) (w : Int) : dcL B D w 58 = dcR B D w 58 := by kernel_rfl
theorem rnd59 (B : Int → Int → Int → Int → Int → Bool) (D : Int → Int → Int → Inst) (w : Int) : dcL B D w 59 = dcR B D w 59 := by kernel_rfl
theorem rnd60 (B : Int → Int → Int → Int → Int → Bool) (D : Int → Int → Int → Inst) (w : Int) : dcL B D w 60 = dcR B D w 60 := by kernel_rfl
theorem rnd61 (B : Int → Int → Int → Int → Int → Bool) (D : Int → Int → Int → Inst) (w : Int) : dcL B D w 61 = dcR B D w 61 := by kernel_rfl
theorem rnd62 (B : Int → Int → Int → Int → Int → Bool) (D : Int → Int → Int → Inst) (w : Int) : dcL B D w 62 = dcR B D w 62 := by kernel_rfl
theorem rnd63 (B : Int → Int → Int → Int → Int → Bool) (D : Int → Int → Int → Inst) (w : Int) : dcL B D w 63 = dcR B D w 63 := by kernel_rfl
theorem rnd64 (B : Int → Int → Int → Int → Int → Bool) (D : Int → Int → Int → Inst) (w : Int) : dcL B D w 64 = dcR B D w 64 := by kernel_rfl
theorem rnd65 (B : Int → Int → Int → Int → Int → Bool) (D : Int → Int → Int → Inst) (w : Int) : dcL B D w 65 = dcR B D w 65 := by kernel_rfl
theorem rnd66 (B : Int → Int → Int → Int → Int → Bool) (D : Int → Int → Int → Inst) (w : Int) : dcL B D w 66 = dcR B D w 66 := by kernel_rfl
theorem rnd67 (B : Int → Int → Int → Int → Int → Bool) (D : Int → Int → Int → Inst) (w : Int) : dcL B D w 67 = dcR B D w 67 := by kernel_rfl
theorem rnd68 (B : Int → Int → Int → Int → Int → Bool) (D : Int → Int → Int → Inst) (w : Int) : dcL B D w 68 = dcR B D w 68 := by kernel_rfl
theorem rnd (B : Int → Int → Int → Int → Int → Bool) (D : Int → Int → Int → Inst) (w : Int) : ∀ k, k < 69 → dcL B D w k = dcR B D w k
  | 0, _ => rnd0 B D w
  | 1, _ => rnd1 B D w
  | 2, _ => rnd2 B D w
  | 3, _ => rnd3 B D w
  | 4, _ => rnd4 B D w
  | 5, _ => rnd5 B D w
  | 6, _ => rnd6 B D w
  | 7, _ => rnd7 B D w
  | 8, _ => rnd8 B D w
  | 9, _ => rnd9 B D w
  | 10, _ => rnd10 B D w
  | 11, _ => rnd11 B D w
  | 12, _ => rnd12 B D w
  | 13, _ => rnd13 B D w
  | 14, _ => rnd14 B D w
  | 15, _ => rnd15 B D w
  | 16, _ => rnd16 B D w
  | 17, _ => rnd17 B D w
  | 18, _ => rnd18 B D w
  | 19, _ => rnd19 B D w
  | 20, _ => rnd20 B D w
  | 21, _ => rnd21 B D w
  | 22, _ => rnd22 B D w
  | 23, _ => rnd23 B D w
  | 24, _ => rnd24 B D w
  | 25, _ => rnd25 B D w
  | 26, _ => rnd26 B D w
  | 27, _ => rnd27 B D w
  | 28, _ => rnd28 B D w
  | 29, _ => rnd29 B D w
  | 30, _ => rnd30 B D w
  | 31, _ => rnd31 B D w
  | 32, _ => rnd32 B D w
  | 33, _ => rnd33 B D w
  | 34, _ => rnd34 B D w
  | 35, _ => rnd35 B D w
  | 36, _ => rnd36 B D w
  | 37, _ => rnd37 B D w
  | 38, _ => rnd38 B D w
  | 39, _ => rnd39 B D w
  | 40, _ => rnd40 B D w
  | 41, _ => rnd41 B D w
  | 42, _ => rnd42 B D w
  | 43, _ => rnd43 B D w
  | 44, _ => rnd44 B D w
  | 45, _ => rnd45 B D w
  | 46, _ => rnd46 B D w
  | 47, _ => rnd47 B D w
  | 48, _ => rnd48 B D w
  | 49, _ => rnd49 B D w
  | 50, _ => rnd50 B D w
  | 51, _ => rnd51 B D w
  | 52, _ => rnd52 B D w
  | 53, _ => rnd53 B D w
  | 54, _ => rnd54 B D w
  | 55, _ => rnd55 B D w
  | 56, _ => rnd56 B D w
  | 57, _ => rnd57 B D w
  | 58, _ => rnd58 B D w
  | 59, _ => rnd59 B D w
  | 60, _ => rnd60 B D w
  | 61, _ => rnd61 B D w
  | 62, _ => rnd62 B D w
  | 63, _ => rnd63 B D w
  | 64, _ => rnd64 B D w
  | 65, _ => rnd65 B D w
  | 66, _ => rnd66 B D w
  | 67, _ => rnd67 B D w
  | 68, _ => rnd68 B D w
  | n + 69, h => absurd h (by omega)
theorem decΨ_ok : CtxOK Try.prog (ctx (decΨ fitsB decI)) := ctxOK fun lo f args H l v H' h hm => by
  unfold decΨ at h
  split at h
  · split at h
    · cases h
      simp only [List.mem_cons, List.not_mem_nil, or_false, Prod.mk.injEq] at hm
      obtain ⟨hc, rfl, rfl⟩ := hm
      exact ⟨rowsOK.call (fun a h => by cases h) lo H', rfl⟩
    · cases h
  · split at h
    · cases h
      simp only [List.mem_cons, List.not_mem_nil, or_false, Prod.mk.injEq] at hm
      obtain ⟨hc, rfl, rfl⟩ := hm
      exact ⟨(fitsOK _ _ _ _ _ _ _ _ hc.symm).call (gh_plains rfl) lo H', rfl⟩
    · cases h
  · split at h
    · cases h
      simp only [List.mem_cons, List.not_mem_nil, or_false, Prod.mk.injEq] at hm
      obtain ⟨hc, rfl, rfl⟩ := hm
      exact ⟨(decOK _ _ _ _ _ _ _ _ hc.symm).call (gh_plains rfl) lo H', rfl⟩
    · cases h
  · cases h
/-- A word's instruction. -/
noncomputable def dec (w : Int) : Inst × Bool := decL table w
noncomputable def decV (w : Int) : Value := .tuple ⟨[instV (dec w).1, .bool (dec w).2]⟩
theorem dcF_tr (w : Int) (k : Nat) (b : Bool) : ∀ x ∈ dcF w k b, Tr 1 x.2 := by
  intro x hx
  simp only [dcF, List.mem_cons, List.not_mem_nil, or_false] at hx
  rcases hx with rfl | rfl | rfl | rfl | rfl | rfl
  · exact Tr.plain rfl
  · exact Tr.ptr (by omega)
  · exact Tr.plain rfl
  · exact Tr.gh (Gh.gs lit_gh)
  · exact Tr.plain rfl
  · exact Tr.plain rfl
theorem dcH_tr (i : Inst) : ∀ b, some b ∈ dcH i → b.view = none ∧ ∀ x ∈ b.cells, Tr 1 x := by
  intro b hb
  simp only [dcH, List.mem_cons, List.not_mem_nil, or_false, Option.some.injEq] at hb
  subst hb
  exact ⟨rfl, fun x hx => Tr.plain (List.all_eq_true.1 (show (instC i).all plain = true from rfl) x hx)⟩
/-- Whether a word is of the row of that number. -/
def fitAt (w : Int) (k : Nat) : Bool := fitsB (rowAt k).form (rowAt k).opc (rowAt k).f3 (rowAt k).f7 w
theorem decL_find (w : Int) : ∀ (l : List Row) (m : Nat), m ≤ l.length → (∀ k, k < m → fitsB (l.getD k ⟨0, 0, 0, 0, 0, 0⟩).form (l.getD k ⟨0, 0, 0, 0, 0, 0⟩).opc (l.getD k ⟨0, 0, 0, 0, 0, 0⟩).f3 (l.getD k ⟨0, 0, 0, 0, 0, 0⟩).f7 w = false) →
    (m < l.length → fitsB (l.getD m ⟨0, 0, 0, 0, 0, 0⟩).form (l.getD m ⟨0, 0, 0, 0, 0, 0⟩).opc (l.getD m ⟨0, 0, 0, 0, 0, 0⟩).f3 (l.getD m ⟨0, 0, 0, 0, 0, 0⟩).f7 w = true) →
    decL l w = if m < l.length then (decI (l.getD m ⟨0, 0, 0, 0, 0, 0⟩).form (l.getD m ⟨0, 0, 0, 0, 0, 0⟩).op w, true) else (noInst, false)
  | [], m, hm, h1, h2 => by simp [decL, noInst]
  | r :: l, 0, hm, h1, h2 => by
    have := h2 (by simp)
    simp only [List.getD_cons_zero] at this
    simp [decL, this]
  | r :: l, m + 1, hm, h1, h2 => by
    have h0 := h1 0 (by omega)
    simp only [List.getD_cons_zero] at h0
    have ih := decL_find w l m (by simpa using hm) (fun k hk => by have := h1 (k + 1) (by omega); simpa only [List.getD_cons_succ] using this) (fun hk => by have := h2 (by simpa using hk); simpa only [List.getD_cons_succ] using this)
    simp only [decL, h0, cond_false, ih, List.length_cons, Nat.add_lt_add_iff_right, List.getD_cons_succ]
theorem first (p : Nat → Bool) : ∀ n, ∃ m, m ≤ n ∧ (∀ k, k < m → p k = false) ∧ (m < n → p m = true)
  | 0 => ⟨0, Nat.le_refl _, fun k h => by omega, fun h => by omega⟩
  | n + 1 => by
    obtain ⟨m, h1, h2, h3⟩ := first p n
    by_cases hm : m < n
    · exact ⟨m, by omega, h2, fun _ => h3 hm⟩
    · cases hp : p n with
      | true => exact ⟨n, by omega, fun k hk => h2 k (by omega), fun _ => hp⟩
      | false => exact ⟨n + 1, Nat.le_refl _, fun k hk => by
          rcases Nat.lt_or_ge k m with h | h
          · exact h2 k h
          · rw [show k = n by omega]; exact hp, fun h => by omega⟩
theorem decode_call (w : Int) : ∃ H', CallOK Try.prog 0 25 [.int .u32 w] [] (decV w) H' := by
  obtain ⟨m, h1, h2, h3⟩ := first (fitAt w) 69
  have hdec := decL_find w table m h1 h2 h3
  have hd : (flat (bodyOf 25)).all (drawsOK ((ctx (decΨ fitsB decI)).dr 25)) = true := by kernel_rfl
  have hdB : (flat dcB).all (drawsOK ((ctx (decΨ fitsB decI)).dr 25)) = true := by kernel_rfl
  have hd1 : ((flat (bodyOf 25)).take 2).all (drawsOK ((ctx (decΨ fitsB decI)).dr 25)) = true := by kernel_rfl
  have hd2 : ((flat (bodyOf 25)).drop 3).all (drawsOK ((ctx (decΨ fitsB decI)).dr 25)) = true := by kernel_rfl
  have hhead := RowOK.of_see decΨ_ok (ts := dcK) rfl hd1 (dc_head fitsB decI w) (by simp) rfl (dcF_tr w 0 false) (dcH_tr noInst)
  have hround : ∀ k, k < m → CodeOK Try.prog 0 20 dcB (dcF w k false) (dcH noInst) .normal (dcF w (k + 1) false) (dcH noInst) := fun k hk => by
    have hr := rnd fitsB decI w k (by omega)
    unfold dcL dcR at hr
    rw [show fitsB (rowAt k).form (rowAt k).opc (rowAt k).f3 (rowAt k).f7 w = false from h2 k hk, cond_false] at hr
    exact (RowOK.of_see decΨ_ok (ts := dcK) rfl hdB hr (by simp [dcH]) rfl (dcF_tr w (k + 1) false) (dcH_tr noInst)).code
  obtain ⟨fn, f1, f2, f3, f4⟩ := fnOf fn25
  by_cases hm : m < 69
  · have hret : CodeOK Try.prog 0 20 dcB (dcF w m false) (dcH noInst) .ret (dcF w m true) (dcH (decI (rowAt m).form (rowAt m).op w)) := by
      have hr := rnd fitsB decI w m hm
      unfold dcL dcR at hr
      rw [show fitsB (rowAt m).form (rowAt m).opc (rowAt m).f3 (rowAt m).f7 w = true from h3 hm, cond_true] at hr
      exact (RowOK.of_see decΨ_ok (ts := dcK) rfl hdB hr (by simp [dcH]) rfl (dcF_tr w m true) (dcH_tr _)).code
    have hloop := CodeOK.loop (fun k => dcF w k false) (fun _ => dcH noInst) m (by simp) hround hret
    have hall := hhead.app (RowOK.left (CodeOK.row (CodeOK.block (id := 0) hloop)) (by simp [outOf]) ((flat (bodyOf 25)).drop 3))
    rw [← dc_flat] at hall
    have hcall := CallOK.of_code decΨ_ok (f := 25) (fn := fn) (c := bodyOf 25) (args := [.int .u32 w]) (show (ctx (decΨ fitsB decI)).Fn 25 = some fn from f1) f2 (by rw [f3]; simp) (by rw [f3]; exact hall.code) (.inr rfl) (l := [instV (dec w).1, .bool (dec w).2]) (by
      rw [f4]
      have : dec w = (decI (rowAt m).form (rowAt m).op w, true) := by
        unfold dec; rw [hdec, if_pos (show m < table.length from hm)]; rfl
      rw [this]
      rfl)
    exact ⟨_, hcall⟩
  · obtain rfl : m = 69 := by omega
    have hend := (RowOK.of_see decΨ_ok (ts := dcK) rfl hdB (dc_end fitsB decI w) (by simp [dcH]) rfl (dcF_tr w 69 false) (dcH_tr noInst)).code
    have htail := RowOK.of_see decΨ_ok (ts := dcK) rfl hd2 (dc_tail fitsB decI w) (by simp [dcH]) rfl (dcF_tr w 69 false) (dcH_tr noInst)
    have hloop := CodeOK.loop (fun k => dcF w k false) (fun _ => dcH noInst) 69 (by simp) hround hend
    have hall := hhead.app (RowOK.app (CodeOK.row (CodeOK.block (id := 0) hloop)) htail)
    rw [← dc_flat] at hall
    have hcall := CallOK.of_code decΨ_ok (f := 25) (fn := fn) (c := bodyOf 25) (args := [.int .u32 w]) (show (ctx (decΨ fitsB decI)).Fn 25 = some fn from f1) f2 (by rw [f3]; simp) (by rw [f3]; exact hall.code) (.inr rfl) (l := [instV (dec w).1, .bool (dec w).2]) (by
      rw [f4]
      have : dec w = (noInst, false) := by
        unfold dec; rw [hdec, if_neg (show ¬ 69 < table.length by decide)]
      rw [this]
      rfl)
    exact ⟨_, hcall⟩
theorem decodeOK (w : Int) : PureOK Try.prog 25 [.int .u32 w] (decV w) := by
  obtain ⟨H', h⟩ := decode_call w
  exact PureOK.of_call h (Gh.plain rfl)
end Go.Proofs.Ytbcikaoklpekhaa.Ab
