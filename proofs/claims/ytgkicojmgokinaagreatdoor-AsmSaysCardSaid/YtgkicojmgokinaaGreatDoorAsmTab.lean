/- Trimmed: AsmTab -/
import Derived.Test.YtgkicojmgokinaaGreatDoorAb21
import Derived.Test.YtgkicojmgokinaaGreatDoorAbC
namespace Go.Proofs.YtgkicojmgokinaaGreatDoor.Ab
open Go Go.RowKit
set_option linter.unusedVariables false
set_option linter.unusedSimpArgs false
set_option maxRecDepth 100000
theorem gh_plains {l : List Value} (h : l.all plain = true) : ∀ a ∈ l, Gh a := fun a ha => Gh.plain (List.all_eq_true.1 h a ha)
def litCells : List Value := [.int .i64 1, sv [108, 117, 105], .int .i64 0, .int .u32 55, .int .u32 0, .int .u32 0, .int .i64 1, .int .i64 2, sv [97, 117, 105, 112, 99], .int .i64 0, .int .u32 23, .int .u32 0, .int .u32 0, .int .i64 1, .int .i64 3, sv [106, 97, 108], .int .i64 1, .int .u32 111, .int .u32 0, .int .u32 0, .int .i64 2, .int .i64 4, sv [106, 97, 108, 114], .int .i64 2, .int .u32 103, .int .u32 0, .int .u32 0, .int .i64 2, .int .i64 5, sv [98, 101, 113], .int .i64 3, .int .u32 99, .int .u32 0, .int .u32 0, .int .i64 3, .int .i64 6, sv [98, 110, 101], .int .i64 3, .int .u32 99, .int .u32 1, .int .u32 0, .int .i64 3, .int .i64 7, sv [98, 108, 116], .int .i64 3, .int .u32 99, .int .u32 4, .int .u32 0, .int .i64 3, .int .i64 8, sv [98, 103, 101], .int .i64 3, .int .u32 99, .int .u32 5, .int .u32 0, .int .i64 3, .int .i64 9, sv [98, 108, 116, 117], .int .i64 3, .int .u32 99, .int .u32 6, .int .u32 0, .int .i64 3, .int .i64 10, sv [98, 103, 101, 117], .int .i64 3, .int .u32 99, .int .u32 7, .int .u32 0, .int .i64 3, .int .i64 11, sv [108, 98], .int .i64 2, .int .u32 3, .int .u32 0, .int .u32 0, .int .i64 4, .int .i64 12, sv [108, 104], .int .i64 2, .int .u32 3, .int .u32 1, .int .u32 0, .int .i64 4, .int .i64 13, sv [108, 119], .int .i64 2, .int .u32 3, .int .u32 2, .int .u32 0, .int .i64 4, .int .i64 14, sv [108, 98, 117], .int .i64 2, .int .u32 3, .int .u32 4, .int .u32 0, .int .i64 4, .int .i64 15, sv [108, 104, 117], .int .i64 2, .int .u32 3, .int .u32 5, .int .u32 0, .int .i64 4, .int .i64 16, sv [115, 98], .int .i64 4, .int .u32 35, .int .u32 0, .int .u32 0, .int .i64 5, .int .i64 17, sv [115, 104], .int .i64 4, .int .u32 35, .int .u32 1, .int .u32 0, .int .i64 5, .int .i64 18, sv [115, 119], .int .i64 4, .int .u32 35, .int .u32 2, .int .u32 0, .int .i64 5, .int .i64 19, sv [97, 100, 100, 105], .int .i64 2, .int .u32 19, .int .u32 0, .int .u32 0, .int .i64 1, .int .i64 20, sv [115, 108, 116, 105], .int .i64 2, .int .u32 19, .int .u32 2, .int .u32 0, .int .i64 1, .int .i64 21, sv [115, 108, 116, 105, 117], .int .i64 2, .int .u32 19, .int .u32 3, .int .u32 0, .int .i64 1, .int .i64 22, sv [120, 111, 114, 105], .int .i64 2, .int .u32 19, .int .u32 4, .int .u32 0, .int .i64 1, .int .i64 23, sv [111, 114, 105], .int .i64 2, .int .u32 19, .int .u32 6, .int .u32 0, .int .i64 1, .int .i64 24, sv [97, 110, 100, 105], .int .i64 2, .int .u32 19, .int .u32 7, .int .u32 0, .int .i64 1, .int .i64 25, sv [115, 108, 108, 105], .int .i64 5, .int .u32 19, .int .u32 1, .int .u32 0, .int .i64 1, .int .i64 26, sv [115, 114, 108, 105], .int .i64 5, .int .u32 19, .int .u32 5, .int .u32 0, .int .i64 1, .int .i64 27, sv [115, 114, 97, 105], .int .i64 5, .int .u32 19, .int .u32 5, .int .u32 32, .int .i64 1, .int .i64 28, sv [97, 100, 100], .int .i64 6, .int .u32 51, .int .u32 0, .int .u32 0, .int .i64 1, .int .i64 29, sv [115, 117, 98], .int .i64 6, .int .u32 51, .int .u32 0, .int .u32 32, .int .i64 1, .int .i64 30, sv [115, 108, 108], .int .i64 6, .int .u32 51, .int .u32 1, .int .u32 0, .int .i64 1, .int .i64 31, sv [115, 108, 116], .int .i64 6, .int .u32 51, .int .u32 2, .int .u32 0, .int .i64 1, .int .i64 32, sv [115, 108, 116, 117], .int .i64 6, .int .u32 51, .int .u32 3, .int .u32 0, .int .i64 1, .int .i64 33, sv [120, 111, 114], .int .i64 6, .int .u32 51, .int .u32 4, .int .u32 0, .int .i64 1, .int .i64 34, sv [115, 114, 108], .int .i64 6, .int .u32 51, .int .u32 5, .int .u32 0, .int .i64 1, .int .i64 35, sv [115, 114, 97], .int .i64 6, .int .u32 51, .int .u32 5, .int .u32 32, .int .i64 1, .int .i64 36, sv [111, 114], .int .i64 6, .int .u32 51, .int .u32 6, .int .u32 0, .int .i64 1, .int .i64 37, sv [97, 110, 100], .int .i64 6, .int .u32 51, .int .u32 7, .int .u32 0, .int .i64 1, .int .i64 38, sv [102, 101, 110, 99, 101], .int .i64 7, .int .u32 15, .int .u32 0, .int .u32 0, .int .i64 7, .int .i64 39, sv [102, 101, 110, 99, 101, 46, 105], .int .i64 8, .int .u32 4111, .int .u32 0, .int .u32 0, .int .i64 7, .int .i64 40, sv [101, 99, 97, 108, 108], .int .i64 8, .int .u32 115, .int .u32 0, .int .u32 0, .int .i64 7, .int .i64 41, sv [101, 98, 114, 101, 97, 107], .int .i64 8, .int .u32 1048691, .int .u32 0, .int .u32 0, .int .i64 7, .int .i64 42, sv [109, 114, 101, 116], .int .i64 8, .int .u32 807403635, .int .u32 0, .int .u32 0, .int .i64 7, .int .i64 43, sv [119, 102, 105], .int .i64 8, .int .u32 273678451, .int .u32 0, .int .u32 0, .int .i64 7, .int .i64 44, sv [115, 102, 101, 110, 99, 101, 46, 118, 109, 97], .int .i64 9, .int .u32 115, .int .u32 0, .int .u32 9, .int .i64 7, .int .i64 45, sv [99, 115, 114, 114, 119], .int .i64 10, .int .u32 115, .int .u32 1, .int .u32 0, .int .i64 7, .int .i64 46, sv [99, 115, 114, 114, 115], .int .i64 10, .int .u32 115, .int .u32 2, .int .u32 0, .int .i64 7, .int .i64 47, sv [99, 115, 114, 114, 99], .int .i64 10, .int .u32 115, .int .u32 3, .int .u32 0, .int .i64 7, .int .i64 48, sv [99, 115, 114, 114, 119, 105], .int .i64 11, .int .u32 115, .int .u32 5, .int .u32 0, .int .i64 7, .int .i64 49, sv [99, 115, 114, 114, 115, 105], .int .i64 11, .int .u32 115, .int .u32 6, .int .u32 0, .int .i64 7, .int .i64 50, sv [99, 115, 114, 114, 99, 105], .int .i64 11, .int .u32 115, .int .u32 7, .int .u32 0, .int .i64 7, .int .i64 51, sv [109, 117, 108], .int .i64 6, .int .u32 51, .int .u32 0, .int .u32 1, .int .i64 1, .int .i64 52, sv [109, 117, 108, 104], .int .i64 6, .int .u32 51, .int .u32 1, .int .u32 1, .int .i64 1, .int .i64 53, sv [109, 117, 108, 104, 115, 117], .int .i64 6, .int .u32 51, .int .u32 2, .int .u32 1, .int .i64 1, .int .i64 54, sv [109, 117, 108, 104, 117], .int .i64 6, .int .u32 51, .int .u32 3, .int .u32 1, .int .i64 1, .int .i64 55, sv [100, 105, 118], .int .i64 6, .int .u32 51, .int .u32 4, .int .u32 1, .int .i64 1, .int .i64 56, sv [100, 105, 118, 117], .int .i64 6, .int .u32 51, .int .u32 5, .int .u32 1, .int .i64 1, .int .i64 57, sv [114, 101, 109], .int .i64 6, .int .u32 51, .int .u32 6, .int .u32 1, .int .i64 1, .int .i64 58, sv [114, 101, 109, 117], .int .i64 6, .int .u32 51, .int .u32 7, .int .u32 1, .int .i64 1, .int .i64 59, sv [108, 114, 46, 119], .int .i64 12, .int .u32 47, .int .u32 2, .int .u32 2, .int .i64 4, .int .i64 60, sv [115, 99, 46, 119], .int .i64 13, .int .u32 47, .int .u32 2, .int .u32 3, .int .i64 6, .int .i64 61, sv [97, 109, 111, 115, 119, 97, 112, 46, 119], .int .i64 13, .int .u32 47, .int .u32 2, .int .u32 1, .int .i64 6, .int .i64 62, sv [97, 109, 111, 97, 100, 100, 46, 119], .int .i64 13, .int .u32 47, .int .u32 2, .int .u32 0, .int .i64 6, .int .i64 63, sv [97, 109, 111, 120, 111, 114, 46, 119], .int .i64 13, .int .u32 47, .int .u32 2, .int .u32 4, .int .i64 6, .int .i64 64, sv [97, 109, 111, 97, 110, 100, 46, 119], .int .i64 13, .int .u32 47, .int .u32 2, .int .u32 12, .int .i64 6, .int .i64 65, sv [97, 109, 111, 111, 114, 46, 119], .int .i64 13, .int .u32 47, .int .u32 2, .int .u32 8, .int .i64 6, .int .i64 66, sv [97, 109, 111, 109, 105, 110, 46, 119], .int .i64 13, .int .u32 47, .int .u32 2, .int .u32 16, .int .i64 6, .int .i64 67, sv [97, 109, 111, 109, 97, 120, 46, 119], .int .i64 13, .int .u32 47, .int .u32 2, .int .u32 20, .int .i64 6, .int .i64 68, sv [97, 109, 111, 109, 105, 110, 117, 46, 119], .int .i64 13, .int .u32 47, .int .u32 2, .int .u32 24, .int .i64 6, .int .i64 69, sv [97, 109, 111, 109, 97, 120, 117, 46, 119], .int .i64 13, .int .u32 47, .int .u32 2, .int .u32 28, .int .i64 6]
theorem lit_gh : ∀ x ∈ litCells, Gh x := gh_plains (by kernel_rfl)
theorem rowsOK : PureOK Tryz.prog 69 [] (gs 7 litCells 69) :=
  PureOK.of_run noOK (show callK (ctx noΦ) 20 0 69 [] [] (fun v _ => some v) = some (gs 7 litCells 69) by kernel_rfl) (Gh.gs lit_gh)
noncomputable def bodyOf (f : FuncId) : Code := match fns f with
  | some fn => match fn.body with
    | some c => c
    | none => .skip
  | none => .skip
noncomputable def sigOf (f : FuncId) : Option (Nat × List ResultVar) := match fns f with | some fn => (match fn.body with | some _ => some (fn.ntmps, fn.results.toList) | none => none) | none => none
theorem fnOf {f n : Nat} {rs : List ResultVar} (h : sigOf f = some (n, rs)) : ∃ fn, fns f = some fn ∧ fn.body = some (bodyOf f) ∧ fn.ntmps = n ∧ fn.results.toList = rs := by
  unfold sigOf at h
  cases hf : fns f with
  | none => rw [hf] at h; cases h
  | some fn =>
    rw [hf] at h
    cases hb : fn.body with
    | none => simp only [hb] at h; cases h
    | some c =>
      simp only [hb, Option.some.injEq, Prod.mk.injEq] at h
      exact ⟨fn, rfl, by simp only [bodyOf, hf, hb], h.1, h.2⟩
def loopIn : Option Code → Code
  | some (.block _ (.loop b)) => b
  | some (.loop b) => b
  | _ => .skip
noncomputable def rowsΦ : Oracle := fun lo f args H => match f with
  | 69 => match args with
    | [] => some [(true, gs 7 litCells 69, H)]
    | _ => none
  | _ => none
theorem rowsΦ_ok : CtxOK Tryz.prog (ctx rowsΦ) := ctxOK fun lo f args H l v H' h hm => by
  unfold rowsΦ at h
  split at h
  · split at h
    · cases h
      simp only [List.mem_cons, List.not_mem_nil, or_false, Prod.mk.injEq] at hm
      obtain ⟨hc, rfl, rfl⟩ := hm
      exact ⟨rowsOK.call (fun a h => by cases h) lo H', rfl⟩
    · cases h
  · cases h
def names : List (List UInt8) := [[108, 117, 105], [97, 117, 105, 112, 99], [106, 97, 108], [106, 97, 108, 114], [98, 101, 113], [98, 110, 101], [98, 108, 116], [98, 103, 101], [98, 108, 116, 117], [98, 103, 101, 117], [108, 98], [108, 104], [108, 119], [108, 98, 117], [108, 104, 117], [115, 98], [115, 104], [115, 119], [97, 100, 100, 105], [115, 108, 116, 105], [115, 108, 116, 105, 117], [120, 111, 114, 105], [111, 114, 105], [97, 110, 100, 105], [115, 108, 108, 105], [115, 114, 108, 105], [115, 114, 97, 105], [97, 100, 100], [115, 117, 98], [115, 108, 108], [115, 108, 116], [115, 108, 116, 117], [120, 111, 114], [115, 114, 108], [115, 114, 97], [111, 114], [97, 110, 100], [102, 101, 110, 99, 101], [102, 101, 110, 99, 101, 46, 105], [101, 99, 97, 108, 108], [101, 98, 114, 101, 97, 107], [109, 114, 101, 116], [119, 102, 105], [115, 102, 101, 110, 99, 101, 46, 118, 109, 97], [99, 115, 114, 114, 119], [99, 115, 114, 114, 115], [99, 115, 114, 114, 99], [99, 115, 114, 114, 119, 105], [99, 115, 114, 114, 115, 105], [99, 115, 114, 114, 99, 105], [109, 117, 108], [109, 117, 108, 104], [109, 117, 108, 104, 115, 117], [109, 117, 108, 104, 117], [100, 105, 118], [100, 105, 118, 117], [114, 101, 109], [114, 101, 109, 117], [108, 114, 46, 119], [115, 99, 46, 119], [97, 109, 111, 115, 119, 97, 112, 46, 119], [97, 109, 111, 97, 100, 100, 46, 119], [97, 109, 111, 120, 111, 114, 46, 119], [97, 109, 111, 97, 110, 100, 46, 119], [97, 109, 111, 111, 114, 46, 119], [97, 109, 111, 109, 105, 110, 46, 119], [97, 109, 111, 109, 97, 120, 46, 119], [97, 109, 111, 109, 105, 110, 117, 46, 119], [97, 109, 111, 109, 97, 120, 117, 46, 119]]
def formL : List Nat := [0, 0, 1, 2, 3, 3, 3, 3, 3, 3, 2, 2, 2, 2, 2, 4, 4, 4, 2, 2, 2, 2, 2, 2, 5, 5, 5, 6, 6, 6, 6, 6, 6, 6, 6, 6, 6, 7, 8, 8, 8, 8, 8, 9, 10, 10, 10, 11, 11, 11, 6, 6, 6, 6, 6, 6, 6, 6, 12, 13, 13, 13, 13, 13, 13, 13, 13, 13, 13]
def kindL : List Int := [1, 1, 2, 2, 3, 3, 3, 3, 3, 3, 4, 4, 4, 4, 4, 5, 5, 5, 1, 1, 1, 1, 1, 1, 1, 1, 1, 1, 1, 1, 1, 1, 1, 1, 1, 1, 1, 7, 7, 7, 7, 7, 7, 7, 7, 7, 7, 7, 7, 7, 1, 1, 1, 1, 1, 1, 1, 1, 4, 6, 6, 6, 6, 6, 6, 6, 6, 6, 6]
def nameF (op : Int) : List UInt8 := names.getD (op - 1).toNat []
def formF (op : Int) : Nat := formL.getD (op - 1).toNat 0
def kindF (op : Int) : Int := kindL.getD (op - 1).toNat 0
def isOp (op : Int) : Bool := decide (1 ≤ op) && decide (op ≤ 69)
theorem ops {p : Int → Prop} (h : ∀ k : Nat, k < 69 → p (k + 1)) {op : Int} (ho : isOp op = true) : p op := by
  simp only [isOp, Bool.and_eq_true, decide_eq_true_eq] at ho
  have := h (op - 1).toNat (by omega)
  rwa [show ((op - 1).toNat : Int) + 1 = op by omega] at this
theorem name0 : callK (ctx rowsΦ) 20 0 26 [.int .i64 1] [] (fun v _ => some v) = some (sv [108, 117, 105]) := by kernel_rfl
theorem kind0 : callK (ctx rowsΦ) 20 0 62 [.int .i64 1] [] (fun v _ => some v) = some (.int .i64 1) := by kernel_rfl
theorem name1 : callK (ctx rowsΦ) 20 0 26 [.int .i64 2] [] (fun v _ => some v) = some (sv [97, 117, 105, 112, 99]) := by kernel_rfl
theorem kind1 : callK (ctx rowsΦ) 20 0 62 [.int .i64 2] [] (fun v _ => some v) = some (.int .i64 1) := by kernel_rfl
theorem name2 : callK (ctx rowsΦ) 20 0 26 [.int .i64 3] [] (fun v _ => some v) = some (sv [106, 97, 108]) := by kernel_rfl
theorem kind2 : callK (ctx rowsΦ) 20 0 62 [.int .i64 3] [] (fun v _ => some v) = some (.int .i64 2) := by kernel_rfl
theorem name3 : callK (ctx rowsΦ) 20 0 26 [.int .i64 4] [] (fun v _ => some v) = some (sv [106, 97, 108, 114]) := by kernel_rfl
theorem kind3 : callK (ctx rowsΦ) 20 0 62 [.int .i64 4] [] (fun v _ => some v) = some (.int .i64 2) := by kernel_rfl
theorem name4 : callK (ctx rowsΦ) 20 0 26 [.int .i64 5] [] (fun v _ => some v) = some (sv [98, 101, 113]) := by kernel_rfl
theorem kind4 : callK (ctx rowsΦ) 20 0 62 [.int .i64 5] [] (fun v _ => some v) = some (.int .i64 3) := by kernel_rfl
theorem name5 : callK (ctx rowsΦ) 20 0 26 [.int .i64 6] [] (fun v _ => some v) = some (sv [98, 110, 101]) := by kernel_rfl
theorem kind5 : callK (ctx rowsΦ) 20 0 62 [.int .i64 6] [] (fun v _ => some v) = some (.int .i64 3) := by kernel_rfl
theorem name6 : callK (ctx rowsΦ) 20 0 26 [.int .i64 7] [] (fun v _ => some v) = some (sv [98, 108, 116]) := by kernel_rfl
theorem kind6 : callK (ctx rowsΦ) 20 0 62 [.int .i64 7] [] (fun v _ => some v) = some (.int .i64 3) := by kernel_rfl
theorem name7 : callK (ctx rowsΦ) 20 0 26 [.int .i64 8] [] (fun v _ => some v) = some (sv [98, 103, 101]) := by kernel_rfl
theorem kind7 : callK (ctx rowsΦ) 20 0 62 [.int .i64 8] [] (fun v _ => some v) = some (.int .i64 3) := by kernel_rfl
theorem name8 : callK (ctx rowsΦ) 20 0 26 [.int .i64 9] [] (fun v _ => some v) = some (sv [98, 108, 116, 117]) := by kernel_rfl
theorem kind8 : callK (ctx rowsΦ) 20 0 62 [.int .i64 9] [] (fun v _ => some v) = some (.int .i64 3) := by kernel_rfl
theorem name9 : callK (ctx rowsΦ) 20 0 26 [.int .i64 10] [] (fun v _ => some v) = some (sv [98, 103, 101, 117]) := by kernel_rfl
theorem kind9 : callK (ctx rowsΦ) 20 0 62 [.int .i64 10] [] (fun v _ => some v) = some (.int .i64 3) := by kernel_rfl
theorem name10 : callK (ctx rowsΦ) 20 0 26 [.int .i64 11] [] (fun v _ => some v) = some (sv [108, 98]) := by kernel_rfl
theorem kind10 : callK (ctx rowsΦ) 20 0 62 [.int .i64 11] [] (fun v _ => some v) = some (.int .i64 4) := by kernel_rfl
theorem name11 : callK (ctx rowsΦ) 20 0 26 [.int .i64 12] [] (fun v _ => some v) = some (sv [108, 104]) := by kernel_rfl
theorem kind11 : callK (ctx rowsΦ) 20 0 62 [.int .i64 12] [] (fun v _ => some v) = some (.int .i64 4) := by kernel_rfl
theorem name12 : callK (ctx rowsΦ) 20 0 26 [.int .i64 13] [] (fun v _ => some v) = some (sv [108, 119]) := by kernel_rfl
theorem kind12 : callK (ctx rowsΦ) 20 0 62 [.int .i64 13] [] (fun v _ => some v) = some (.int .i64 4) := by kernel_rfl
theorem name13 : callK (ctx rowsΦ) 20 0 26 [.int .i64 14] [] (fun v _ => some v) = some (sv [108, 98, 117]) := by kernel_rfl
theorem kind13 : callK (ctx rowsΦ) 20 0 62 [.int .i64 14] [] (fun v _ => some v) = some (.int .i64 4) := by kernel_rfl
theorem name14 : callK (ctx rowsΦ) 20 0 26 [.int .i64 15] [] (fun v _ => some v) = some (sv [108, 104, 117]) := by kernel_rfl
theorem kind14 : callK (ctx rowsΦ) 20 0 62 [.int .i64 15] [] (fun v _ => some v) = some (.int .i64 4) := by kernel_rfl
theorem name15 : callK (ctx rowsΦ) 20 0 26 [.int .i64 16] [] (fun v _ => some v) = some (sv [115, 98]) := by kernel_rfl
theorem kind15 : callK (ctx rowsΦ) 20 0 62 [.int .i64 16] [] (fun v _ => some v) = some (.int .i64 5) := by kernel_rfl
theorem name16 : callK (ctx rowsΦ) 20 0 26 [.int .i64 17] [] (fun v _ => some v) = some (sv [115, 104]) := by kernel_rfl
theorem kind16 : callK (ctx rowsΦ) 20 0 62 [.int .i64 17] [] (fun v _ => some v) = some (.int .i64 5) := by kernel_rfl
theorem name17 : callK (ctx rowsΦ) 20 0 26 [.int .i64 18] [] (fun v _ => some v) = some (sv [115, 119]) := by kernel_rfl
theorem kind17 : callK (ctx rowsΦ) 20 0 62 [.int .i64 18] [] (fun v _ => some v) = some (.int .i64 5) := by kernel_rfl
theorem name18 : callK (ctx rowsΦ) 20 0 26 [.int .i64 19] [] (fun v _ => some v) = some (sv [97, 100, 100, 105]) := by kernel_rfl
theorem kind18 : callK (ctx rowsΦ) 20 0 62 [.int .i64 19] [] (fun v _ => some v) = some (.int .i64 1) := by kernel_rfl
theorem name19 : callK (ctx rowsΦ) 20 0 26 [.int .i64 20] [] (fun v _ => some v) = some (sv [115, 108, 116, 105]) := by kernel_rfl
theorem kind19 : callK (ctx rowsΦ) 20 0 62 [.int .i64 20] [] (fun v _ => some v) = some (.int .i64 1) := by kernel_rfl
theorem name20 : callK (ctx rowsΦ) 20 0 26 [.int .i64 21] [] (fun v _ => some v) = some (sv [115, 108, 116, 105, 117]) := by kernel_rfl
theorem kind20 : callK (ctx rowsΦ) 20 0 62 [.int .i64 21] [] (fun v _ => some v) = some (.int .i64 1) := by kernel_rfl
theorem name21 : callK (ctx rowsΦ) 20 0 26 [.int .i64 22] [] (fun v _ => some v) = some (sv [120, 111, 114, 105]) := by kernel_rfl
theorem kind21 : callK (ctx rowsΦ) 20 0 62 [.int .i64 22] [] (fun v _ => some v) = some (.int .i64 1) := by kernel_rfl
theorem name22 : callK (ctx rowsΦ) 20 0 26 [.int .i64 23] [] (fun v _ => some v) = some (sv [111, 114, 105]) := by kernel_rfl
theorem kind22 : callK (ctx rowsΦ) 20 0 62 [.int .i64 23] [] (fun v _ => some v) = some (.int .i64 1) := by kernel_rfl
theorem name23 : callK (ctx rowsΦ) 20 0 26 [.int .i64 24] [] (fun v _ => some v) = some (sv [97, 110, 100, 105]) := by kernel_rfl
theorem kind23 : callK (ctx rowsΦ) 20 0 62 [.int .i64 24] [] (fun v _ => some v) = some (.int .i64 1) := by kernel_rfl
theorem name24 : callK (ctx rowsΦ) 20 0 26 [.int .i64 25] [] (fun v _ => some v) = some (sv [115, 108, 108, 105]) := by kernel_rfl
theorem kind24 : callK (ctx rowsΦ) 20 0 62 [.int .i64 25] [] (fun v _ => some v) = some (.int .i64 1) := by kernel_rfl
theorem name25 : callK (ctx rowsΦ) 20 0 26 [.int .i64 26] [] (fun v _ => some v) = some (sv [115, 114, 108, 105]) := by kernel_rfl
theorem kind25 : callK (ctx rowsΦ) 20 0 62 [.int .i64 26] [] (fun v _ => some v) = some (.int .i64 1) := by kernel_rfl
theorem name26 : callK (ctx rowsΦ) 20 0 26 [.int .i64 27] [] (fun v _ => some v) = some (sv [115, 114, 97, 105]) := by kernel_rfl
theorem kind26 : callK (ctx rowsΦ) 20 0 62 [.int .i64 27] [] (fun v _ => some v) = some (.int .i64 1) := by kernel_rfl
theorem name27 : callK (ctx rowsΦ) 20 0 26 [.int .i64 28] [] (fun v _ => some v) = some (sv [97, 100, 100]) := by kernel_rfl
theorem kind27 : callK (ctx rowsΦ) 20 0 62 [.int .i64 28] [] (fun v _ => some v) = some (.int .i64 1) := by kernel_rfl
theorem name28 : callK (ctx rowsΦ) 20 0 26 [.int .i64 29] [] (fun v _ => some v) = some (sv [115, 117, 98]) := by kernel_rfl
theorem kind28 : callK (ctx rowsΦ) 20 0 62 [.int .i64 29] [] (fun v _ => some v) = some (.int .i64 1) := by kernel_rfl
theorem name29 : callK (ctx rowsΦ) 20 0 26 [.int .i64 30] [] (fun v _ => some v) = some (sv [115, 108, 108]) := by kernel_rfl
theorem kind29 : callK (ctx rowsΦ) 20 0 62 [.int .i64 30] [] (fun v _ => some v) = some (.int .i64 1) := by kernel_rfl
theorem name30 : callK (ctx rowsΦ) 20 0 26 [.int .i64 31] [] (fun v _ => some v) = some (sv [115, 108, 116]) := by kernel_rfl
theorem kind30 : callK (ctx rowsΦ) 20 0 62 [.int .i64 31] [] (fun v _ => some v) = some (.int .i64 1) := by kernel_rfl
theorem name31 : callK (ctx rowsΦ) 20 0 26 [.int .i64 32] [] (fun v _ => some v) = some (sv [115, 108, 116, 117]) := by kernel_rfl
theorem kind31 : callK (ctx rowsΦ) 20 0 62 [.int .i64 32] [] (fun v _ => some v) = some (.int .i64 1) := by kernel_rfl
theorem name32 : callK (ctx rowsΦ) 20 0 26 [.int .i64 33] [] (fun v _ => some v) = some (sv [120, 111, 114]) := by kernel_rfl
theorem kind32 : callK (ctx rowsΦ) 20 0 62 [.int .i64 33] [] (fun v _ => some v) = some (.int .i64 1) := by kernel_rfl
theorem name33 : callK (ctx rowsΦ) 20 0 26 [.int .i64 34] [] (fun v _ => some v) = some (sv [115, 114, 108]) := by kernel_rfl
theorem kind33 : callK (ctx rowsΦ) 20 0 62 [.int .i64 34] [] (fun v _ => some v) = some (.int .i64 1) := by kernel_rfl
theorem name34 : callK (ctx rowsΦ) 20 0 26 [.int .i64 35] [] (fun v _ => some v) = some (sv [115, 114, 97]) := by kernel_rfl
theorem kind34 : callK (ctx rowsΦ) 20 0 62 [.int .i64 35] [] (fun v _ => some v) = some (.int .i64 1) := by kernel_rfl
theorem name35 : callK (ctx rowsΦ) 20 0 26 [.int .i64 36] [] (fun v _ => some v) = some (sv [111, 114]) := by kernel_rfl
theorem kind35 : callK (ctx rowsΦ) 20 0 62 [.int .i64 36] [] (fun v _ => some v) = some (.int .i64 1) := by kernel_rfl
theorem name36 : callK (ctx rowsΦ) 20 0 26 [.int .i64 37] [] (fun v _ => some v) = some (sv [97, 110, 100]) := by kernel_rfl
theorem kind36 : callK (ctx rowsΦ) 20 0 62 [.int .i64 37] [] (fun v _ => some v) = some (.int .i64 1) := by kernel_rfl
theorem name37 : callK (ctx rowsΦ) 20 0 26 [.int .i64 38] [] (fun v _ => some v) = some (sv [102, 101, 110, 99, 101]) := by kernel_rfl
theorem kind37 : callK (ctx rowsΦ) 20 0 62 [.int .i64 38] [] (fun v _ => some v) = some (.int .i64 7) := by kernel_rfl
theorem name38 : callK (ctx rowsΦ) 20 0 26 [.int .i64 39] [] (fun v _ => some v) = some (sv [102, 101, 110, 99, 101, 46, 105]) := by kernel_rfl
theorem kind38 : callK (ctx rowsΦ) 20 0 62 [.int .i64 39] [] (fun v _ => some v) = some (.int .i64 7) := by kernel_rfl
theorem name39 : callK (ctx rowsΦ) 20 0 26 [.int .i64 40] [] (fun v _ => some v) = some (sv [101, 99, 97, 108, 108]) := by kernel_rfl
theorem kind39 : callK (ctx rowsΦ) 20 0 62 [.int .i64 40] [] (fun v _ => some v) = some (.int .i64 7) := by kernel_rfl
theorem name40 : callK (ctx rowsΦ) 20 0 26 [.int .i64 41] [] (fun v _ => some v) = some (sv [101, 98, 114, 101, 97, 107]) := by kernel_rfl
theorem kind40 : callK (ctx rowsΦ) 20 0 62 [.int .i64 41] [] (fun v _ => some v) = some (.int .i64 7) := by kernel_rfl
theorem name41 : callK (ctx rowsΦ) 20 0 26 [.int .i64 42] [] (fun v _ => some v) = some (sv [109, 114, 101, 116]) := by kernel_rfl
theorem kind41 : callK (ctx rowsΦ) 20 0 62 [.int .i64 42] [] (fun v _ => some v) = some (.int .i64 7) := by kernel_rfl
theorem name42 : callK (ctx rowsΦ) 20 0 26 [.int .i64 43] [] (fun v _ => some v) = some (sv [119, 102, 105]) := by kernel_rfl
theorem kind42 : callK (ctx rowsΦ) 20 0 62 [.int .i64 43] [] (fun v _ => some v) = some (.int .i64 7) := by kernel_rfl
theorem name43 : callK (ctx rowsΦ) 20 0 26 [.int .i64 44] [] (fun v _ => some v) = some (sv [115, 102, 101, 110, 99, 101, 46, 118, 109, 97]) := by kernel_rfl
theorem kind43 : callK (ctx rowsΦ) 20 0 62 [.int .i64 44] [] (fun v _ => some v) = some (.int .i64 7) := by kernel_rfl
theorem name44 : callK (ctx rowsΦ) 20 0 26 [.int .i64 45] [] (fun v _ => some v) = some (sv [99, 115, 114, 114, 119]) := by kernel_rfl
theorem kind44 : callK (ctx rowsΦ) 20 0 62 [.int .i64 45] [] (fun v _ => some v) = some (.int .i64 7) := by kernel_rfl
theorem name45 : callK (ctx rowsΦ) 20 0 26 [.int .i64 46] [] (fun v _ => some v) = some (sv [99, 115, 114, 114, 115]) := by kernel_rfl
theorem kind45 : callK (ctx rowsΦ) 20 0 62 [.int .i64 46] [] (fun v _ => some v) = some (.int .i64 7) := by kernel_rfl
theorem name46 : callK (ctx rowsΦ) 20 0 26 [.int .i64 47] [] (fun v _ => some v) = some (sv [99, 115, 114, 114, 99]) := by kernel_rfl
theorem kind46 : callK (ctx rowsΦ) 20 0 62 [.int .i64 47] [] (fun v _ => some v) = some (.int .i64 7) := by kernel_rfl
theorem name47 : callK (ctx rowsΦ) 20 0 26 [.int .i64 48] [] (fun v _ => some v) = some (sv [99, 115, 114, 114, 119, 105]) := by kernel_rfl
theorem kind47 : callK (ctx rowsΦ) 20 0 62 [.int .i64 48] [] (fun v _ => some v) = some (.int .i64 7) := by kernel_rfl
theorem name48 : callK (ctx rowsΦ) 20 0 26 [.int .i64 49] [] (fun v _ => some v) = some (sv [99, 115, 114, 114, 115, 105]) := by kernel_rfl
theorem kind48 : callK (ctx rowsΦ) 20 0 62 [.int .i64 49] [] (fun v _ => some v) = some (.int .i64 7) := by kernel_rfl
theorem name49 : callK (ctx rowsΦ) 20 0 26 [.int .i64 50] [] (fun v _ => some v) = some (sv [99, 115, 114, 114, 99, 105]) := by kernel_rfl
theorem kind49 : callK (ctx rowsΦ) 20 0 62 [.int .i64 50] [] (fun v _ => some v) = some (.int .i64 7) := by kernel_rfl
theorem name50 : callK (ctx rowsΦ) 20 0 26 [.int .i64 51] [] (fun v _ => some v) = some (sv [109, 117, 108]) := by kernel_rfl
theorem kind50 : callK (ctx rowsΦ) 20 0 62 [.int .i64 51] [] (fun v _ => some v) = some (.int .i64 1) := by kernel_rfl
theorem name51 : callK (ctx rowsΦ) 20 0 26 [.int .i64 52] [] (fun v _ => some v) = some (sv [109, 117, 108, 104]) := by kernel_rfl
theorem kind51 : callK (ctx rowsΦ) 20 0 62 [.int .i64 52] [] (fun v _ => some v) = some (.int .i64 1) := by kernel_rfl
theorem name52 : callK (ctx rowsΦ) 20 0 26 [.int .i64 53] [] (fun v _ => some v) = some (sv [109, 117, 108, 104, 115, 117]) := by kernel_rfl
theorem kind52 : callK (ctx rowsΦ) 20 0 62 [.int .i64 53] [] (fun v _ => some v) = some (.int .i64 1) := by kernel_rfl
theorem name53 : callK (ctx rowsΦ) 20 0 26 [.int .i64 54] [] (fun v _ => some v) = some (sv [109, 117, 108, 104, 117]) := by kernel_rfl
theorem kind53 : callK (ctx rowsΦ) 20 0 62 [.int .i64 54] [] (fun v _ => some v) = some (.int .i64 1) := by kernel_rfl
theorem name54 : callK (ctx rowsΦ) 20 0 26 [.int .i64 55] [] (fun v _ => some v) = some (sv [100, 105, 118]) := by kernel_rfl
theorem kind54 : callK (ctx rowsΦ) 20 0 62 [.int .i64 55] [] (fun v _ => some v) = some (.int .i64 1) := by kernel_rfl
theorem name55 : callK (ctx rowsΦ) 20 0 26 [.int .i64 56] [] (fun v _ => some v) = some (sv [100, 105, 118, 117]) := by kernel_rfl
theorem kind55 : callK (ctx rowsΦ) 20 0 62 [.int .i64 56] [] (fun v _ => some v) = some (.int .i64 1) := by kernel_rfl
theorem name56 : callK (ctx rowsΦ) 20 0 26 [.int .i64 57] [] (fun v _ => some v) = some (sv [114, 101, 109]) := by kernel_rfl
theorem kind56 : callK (ctx rowsΦ) 20 0 62 [.int .i64 57] [] (fun v _ => some v) = some (.int .i64 1) := by kernel_rfl
theorem name57 : callK (ctx rowsΦ) 20 0 26 [.int .i64 58] [] (fun v _ => some v) = some (sv [114, 101, 109, 117]) := by kernel_rfl
theorem kind57 : callK (ctx rowsΦ) 20 0 62 [.int .i64 58] [] (fun v _ => some v) = some (.int .i64 1) := by kernel_rfl
theorem name58 : callK (ctx rowsΦ) 20 0 26 [.int .i64 59] [] (fun v _ => some v) = some (sv [108, 114, 46, 119]) := by kernel_rfl
theorem kind58 : callK (ctx rowsΦ) 20 0 62 [.int .i64 59] [] (fun v _ => some v) = some (.int .i64 4) := by kernel_rfl
theorem name59 : callK (ctx rowsΦ) 20 0 26 [.int .i64 60] [] (fun v _ => some v) = some (sv [115, 99, 46, 119]) := by kernel_rfl
theorem kind59 : callK (ctx rowsΦ) 20 0 62 [.int .i64 60] [] (fun v _ => some v) = some (.int .i64 6) := by kernel_rfl
theorem name60 : callK (ctx rowsΦ) 20 0 26 [.int .i64 61] [] (fun v _ => some v) = some (sv [97, 109, 111, 115, 119, 97, 112, 46, 119]) := by kernel_rfl
theorem kind60 : callK (ctx rowsΦ) 20 0 62 [.int .i64 61] [] (fun v _ => some v) = some (.int .i64 6) := by kernel_rfl
theorem name61 : callK (ctx rowsΦ) 20 0 26 [.int .i64 62] [] (fun v _ => some v) = some (sv [97, 109, 111, 97, 100, 100, 46, 119]) := by kernel_rfl
theorem kind61 : callK (ctx rowsΦ) 20 0 62 [.int .i64 62] [] (fun v _ => some v) = some (.int .i64 6) := by kernel_rfl
theorem name62 : callK (ctx rowsΦ) 20 0 26 [.int .i64 63] [] (fun v _ => some v) = some (sv [97, 109, 111, 120, 111, 114, 46, 119]) := by kernel_rfl
theorem kind62 : callK (ctx rowsΦ) 20 0 62 [.int .i64 63] [] (fun v _ => some v) = some (.int .i64 6) := by kernel_rfl
theorem name63 : callK (ctx rowsΦ) 20 0 26 [.int .i64 64] [] (fun v _ => some v) = some (sv [97, 109, 111, 97, 110, 100, 46, 119]) := by kernel_rfl
theorem kind63 : callK (ctx rowsΦ) 20 0 62 [.int .i64 64] [] (fun v _ => some v) = some (.int .i64 6) := by kernel_rfl
theorem name64 : callK (ctx rowsΦ) 20 0 26 [.int .i64 65] [] (fun v _ => some v) = some (sv [97, 109, 111, 111, 114, 46, 119]) := by kernel_rfl
theorem kind64 : callK (ctx rowsΦ) 20 0 62 [.int .i64 65] [] (fun v _ => some v) = some (.int .i64 6) := by kernel_rfl
theorem name65 : callK (ctx rowsΦ) 20 0 26 [.int .i64 66] [] (fun v _ => some v) = some (sv [97, 109, 111, 109, 105, 110, 46, 119]) := by kernel_rfl
theorem kind65 : callK (ctx rowsΦ) 20 0 62 [.int .i64 66] [] (fun v _ => some v) = some (.int .i64 6) := by kernel_rfl
theorem name66 : callK (ctx rowsΦ) 20 0 26 [.int .i64 67] [] (fun v _ => some v) = some (sv [97, 109, 111, 109, 97, 120, 46, 119]) := by kernel_rfl
theorem kind66 : callK (ctx rowsΦ) 20 0 62 [.int .i64 67] [] (fun v _ => some v) = some (.int .i64 6) := by kernel_rfl
theorem name67 : callK (ctx rowsΦ) 20 0 26 [.int .i64 68] [] (fun v _ => some v) = some (sv [97, 109, 111, 109, 105, 110, 117, 46, 119]) := by kernel_rfl
theorem kind67 : callK (ctx rowsΦ) 20 0 62 [.int .i64 68] [] (fun v _ => some v) = some (.int .i64 6) := by kernel_rfl
theorem name68 : callK (ctx rowsΦ) 20 0 26 [.int .i64 69] [] (fun v _ => some v) = some (sv [97, 109, 111, 109, 97, 120, 117, 46, 119]) := by kernel_rfl
theorem kind68 : callK (ctx rowsΦ) 20 0 62 [.int .i64 69] [] (fun v _ => some v) = some (.int .i64 6) := by kernel_rfl
theorem nameAll : ∀ k : Nat, k < 69 → callK (ctx rowsΦ) 20 0 26 [.int .i64 ((k : Int) + 1)] [] (fun v _ => some v) = some (sv (nameF ((k : Int) + 1)))
  | 0, _ => name0
  | 1, _ => name1
  | 2, _ => name2
  | 3, _ => name3
  | 4, _ => name4
  | 5, _ => name5
  | 6, _ => name6
  | 7, _ => name7
  | 8, _ => name8
  | 9, _ => name9
  | 10, _ => name10
  | 11, _ => name11
  | 12, _ => name12
  | 13, _ => name13
  | 14, _ => name14
  | 15, _ => name15
  | 16, _ => name16
  | 17, _ => name17
  | 18, _ => name18
  | 19, _ => name19
  | 20, _ => name20
  | 21, _ => name21
  | 22, _ => name22
  | 23, _ => name23
  | 24, _ => name24
  | 25, _ => name25
  | 26, _ => name26
  | 27, _ => name27
  | 28, _ => name28
  | 29, _ => name29
  | 30, _ => name30
  | 31, _ => name31
  | 32, _ => name32
  | 33, _ => name33
  | 34, _ => name34
  | 35, _ => name35
  | 36, _ => name36
  | 37, _ => name37
  | 38, _ => name38
  | 39, _ => name39
  | 40, _ => name40
  | 41, _ => name41
  | 42, _ => name42
  | 43, _ => name43
  | 44, _ => name44
  | 45, _ => name45
  | 46, _ => name46
  | 47, _ => name47
  | 48, _ => name48
  | 49, _ => name49
  | 50, _ => name50
  | 51, _ => name51
  | 52, _ => name52
  | 53, _ => name53
  | 54, _ => name54
  | 55, _ => name55
  | 56, _ => name56
  | 57, _ => name57
  | 58, _ => name58
  | 59, _ => name59
  | 60, _ => name60
  | 61, _ => name61
  | 62, _ => name62
  | 63, _ => name63
  | 64, _ => name64
  | 65, _ => name65
  | 66, _ => name66
  | 67, _ => name67
  | 68, _ => name68
  | n + 69, h => absurd h (by omega)
theorem nameOK {op : Int} (h : isOp op = true) : PureOK Tryz.prog 26 [.int .i64 op] (sv (nameF op)) :=
  ops (p := fun op => PureOK Tryz.prog 26 [.int .i64 op] (sv (nameF op))) (fun k hk => PureOK.of_run rowsΦ_ok (nameAll k hk) (Gh.plain rfl)) h
theorem kindAll : ∀ k : Nat, k < 69 → callK (ctx rowsΦ) 20 0 62 [.int .i64 ((k : Int) + 1)] [] (fun v _ => some v) = some (.int .i64 (kindF ((k : Int) + 1)))
  | 0, _ => kind0
  | 1, _ => kind1
  | 2, _ => kind2
  | 3, _ => kind3
  | 4, _ => kind4
  | 5, _ => kind5
  | 6, _ => kind6
  | 7, _ => kind7
  | 8, _ => kind8
  | 9, _ => kind9
  | 10, _ => kind10
  | 11, _ => kind11
  | 12, _ => kind12
  | 13, _ => kind13
  | 14, _ => kind14
  | 15, _ => kind15
  | 16, _ => kind16
  | 17, _ => kind17
  | 18, _ => kind18
  | 19, _ => kind19
  | 20, _ => kind20
  | 21, _ => kind21
  | 22, _ => kind22
  | 23, _ => kind23
  | 24, _ => kind24
  | 25, _ => kind25
  | 26, _ => kind26
  | 27, _ => kind27
  | 28, _ => kind28
  | 29, _ => kind29
  | 30, _ => kind30
  | 31, _ => kind31
  | 32, _ => kind32
  | 33, _ => kind33
  | 34, _ => kind34
  | 35, _ => kind35
  | 36, _ => kind36
  | 37, _ => kind37
  | 38, _ => kind38
  | 39, _ => kind39
  | 40, _ => kind40
  | 41, _ => kind41
  | 42, _ => kind42
  | 43, _ => kind43
  | 44, _ => kind44
  | 45, _ => kind45
  | 46, _ => kind46
  | 47, _ => kind47
  | 48, _ => kind48
  | 49, _ => kind49
  | 50, _ => kind50
  | 51, _ => kind51
  | 52, _ => kind52
  | 53, _ => kind53
  | 54, _ => kind54
  | 55, _ => kind55
  | 56, _ => kind56
  | 57, _ => kind57
  | 58, _ => kind58
  | 59, _ => kind59
  | 60, _ => kind60
  | 61, _ => kind61
  | 62, _ => kind62
  | 63, _ => kind63
  | 64, _ => kind64
  | 65, _ => kind65
  | 66, _ => kind66
  | 67, _ => kind67
  | 68, _ => kind68
  | n + 69, h => absurd h (by omega)
theorem kindOK {op : Int} (h : isOp op = true) : PureOK Tryz.prog 62 [.int .i64 op] (.int .i64 (kindF op)) :=
  ops (p := fun op => PureOK Tryz.prog 62 [.int .i64 op] (.int .i64 (kindF op))) (fun k hk => PureOK.of_run rowsΦ_ok (kindAll k hk) (Gh.plain rfl)) h
theorem fn38 : sigOf 38 = some (18, [.tmp 2]) := by kernel_rfl
noncomputable def opB : Code := loopIn (flat (bodyOf 38))[2]?
def opK : List Nat := [0, 2, 5, 6, 7]
def opFr (s : ByteArray) (r k : Int) : Fr := [(0, .string s), (2, .int .i64 r), (5, gs 7 litCells 69), (6, .int .i64 69), (7, .int .i64 k)]
noncomputable def opL (s : ByteArray) (k : Int) : Option (Exit × List (Option Value) × Heap) :=
  runL ((ctx rowsΦ).at_ 38) (callK (ctx rowsΦ) 20) 20 0 18 38 (keeps 38) (flat opB) (opFr s 0 k) [] (see opK 0)
def same (l : List UInt8) (s : ByteArray) : Bool := (ByteArray.mk ⟨l⟩).toList == s.toList
def opR (s : ByteArray) (l : List UInt8) (k k1 : Int) : Option (Exit × List (Option Value) × Heap) :=
  bif (ByteArray.mk ⟨l⟩).toList == s.toList then some (.ret, (opFr s k1 k).map (fun e => some e.2), []) else some (.normal, (opFr s 0 k1).map (fun e => some e.2), [])
theorem op_head (s : ByteArray) : runL ((ctx rowsΦ).at_ 38) (callK (ctx rowsΦ) 20) 20 0 18 38 (keeps 38) ((flat (bodyOf 38)).take 2) (enterF 0 [.string s]) [] (see opK 0) = some (.normal, (opFr s 0 0).map (fun e => some e.2), []) := by kernel_rfl
theorem op_end (s : ByteArray) : opL s 69 = some (.exit 0, (opFr s 0 69).map (fun e => some e.2), []) := by kernel_rfl
theorem op_tail (s : ByteArray) : runL ((ctx rowsΦ).at_ 38) (callK (ctx rowsΦ) 20) 20 0 18 38 (keeps 38) ((flat (bodyOf 38)).drop 3) (opFr s 0 69) [] (see opK 0) = some (.ret, (opFr s 0 69).map (fun e => some e.2), []) := by kernel_rfl
theorem op_flat : flat (bodyOf 38) = (flat (bodyOf 38)).take 2 ++ ([.block 0 (.loop opB)] ++ (flat (bodyOf 38)).drop 3) := by kernel_rfl
theorem ornd0 (s : ByteArray) : opL s 0 = opR s [108, 117, 105] 0 1 := by kernel_rfl
theorem ornd1 (s : ByteArray) : opL s 1 = opR s [97, 117, 105, 112, 99] 1 2 := by kernel_rfl
theorem ornd2 (s : ByteArray) : opL s 2 = opR s [106, 97, 108] 2 3 := by kernel_rfl
theorem ornd3 (s : ByteArray) : opL s 3 = opR s [106, 97, 108, 114] 3 4 := by kernel_rfl
theorem ornd4 (s : ByteArray) : opL s 4 = opR s [98, 101, 113] 4 5 := by kernel_rfl
theorem ornd5 (s : ByteArray) : opL s 5 = opR s [98, 110, 101] 5 6 := by kernel_rfl
theorem ornd6 (s : ByteArray) : opL s 6 = opR s [98, 108, 116] 6 7 := by kernel_rfl
theorem ornd7 (s : ByteArray) : opL s 7 = opR s [98, 103, 101] 7 8 := by kernel_rfl
theorem ornd8 (s : ByteArray) : opL s 8 = opR s [98, 108, 116, 117] 8 9 := by kernel_rfl
theorem ornd9 (s : ByteArray) : opL s 9 = opR s [98, 103, 101, 117] 9 10 := by kernel_rfl
theorem ornd10 (s : ByteArray) : opL s 10 = opR s [108, 98] 10 11 := by kernel_rfl
theorem ornd11 (s : ByteArray) : opL s 11 = opR s [108, 104] 11 12 := by kernel_rfl
theorem ornd12 (s : ByteArray) : opL s 12 = opR s [108, 119] 12 13 := by kernel_rfl
theorem ornd13 (s : ByteArray) : opL s 13 = opR s [108, 98, 117] 13 14 := by kernel_rfl
theorem ornd14 (s : ByteArray) : opL s 14 = opR s [108, 104, 117] 14 15 := by kernel_rfl
theorem ornd15 (s : ByteArray) : opL s 15 = opR s [115, 98] 15 16 := by kernel_rfl
theorem ornd16 (s : ByteArray) : opL s 16 = opR s [115, 104] 16 17 := by kernel_rfl
theorem ornd17 (s : ByteArray) : opL s 17 = opR s [115, 119] 17 18 := by kernel_rfl
theorem ornd18 (s : ByteArray) : opL s 18 = opR s [97, 100, 100, 105] 18 19 := by kernel_rfl
theorem ornd19 (s : ByteArray) : opL s 19 = opR s [115, 108, 116, 105] 19 20 := by kernel_rfl
theorem ornd20 (s : ByteArray) : opL s 20 = opR s [115, 108, 116, 105, 117] 20 21 := by kernel_rfl
theorem ornd21 (s : ByteArray) : opL s 21 = opR s [120, 111, 114, 105] 21 22 := by kernel_rfl
theorem ornd22 (s : ByteArray) : opL s 22 = opR s [111, 114, 105] 22 23 := by kernel_rfl
theorem ornd23 (s : ByteArray) : opL s 23 = opR s [97, 110, 100, 105] 23 24 := by kernel_rfl
theorem ornd24 (s : ByteArray) : opL s 24 = opR s [115, 108, 108, 105] 24 25 := by kernel_rfl
theorem ornd25 (s : ByteArray) : opL s 25 = opR s [115, 114, 108, 105] 25 26 := by kernel_rfl
theorem ornd26 (s : ByteArray) : opL s 26 = opR s [115, 114, 97, 105] 26 27 := by kernel_rfl
theorem ornd27 (s : ByteArray) : opL s 27 = opR s [97, 100, 100] 27 28 := by kernel_rfl
theorem ornd28 (s : ByteArray) : opL s 28 = opR s [115, 117, 98] 28 29 := by kernel_rfl
theorem ornd29 (s : ByteArray) : opL s 29 = opR s [115, 108, 108] 29 30 := by kernel_rfl
theorem ornd30 (s : ByteArray) : opL s 30 = opR s [115, 108, 116] 30 31 := by kernel_rfl
theorem ornd31 (s : ByteArray) : opL s 31 = opR s [115, 108, 116, 117] 31 32 := by kernel_rfl
theorem ornd32 (s : ByteArray) : opL s 32 = opR s [120, 111, 114] 32 33 := by kernel_rfl
theorem ornd33 (s : ByteArray) : opL s 33 = opR s [115, 114, 108] 33 34 := by kernel_rfl
theorem ornd34 (s : ByteArray) : opL s 34 = opR s [115, 114, 97] 34 35 := by kernel_rfl
theorem ornd35 (s : ByteArray) : opL s 35 = opR s [111, 114] 35 36 := by kernel_rfl
theorem ornd36 (s : ByteArray) : opL s 36 = opR s [97, 110, 100] 36 37 := by kernel_rfl
theorem ornd37 (s : ByteArray) : opL s 37 = opR s [102, 101, 110, 99, 101] 37 38 := by kernel_rfl
theorem ornd38 (s : ByteArray) : opL s 38 = opR s [102, 101, 110, 99, 101, 46, 105] 38 39 := by kernel_rfl
theorem ornd39 (s : ByteArray) : opL s 39 = opR s [101, 99, 97, 108, 108] 39 40 := by kernel_rfl
theorem ornd40 (s : ByteArray) : opL s 40 = opR s [101, 98, 114, 101, 97, 107] 40 41 := by kernel_rfl
theorem ornd41 (s : ByteArray) : opL s 41 = opR s [109, 114, 101, 116] 41 42 := by kernel_rfl
theorem ornd42 (s : ByteArray) : opL s 42 = opR s [119, 102, 105] 42 43 := by kernel_rfl
theorem ornd43 (s : ByteArray) : opL s 43 = opR s [115, 102, 101, 110, 99, 101, 46, 118, 109, 97] 43 44 := by kernel_rfl
theorem ornd44 (s : ByteArray) : opL s 44 = opR s [99, 115, 114, 114, 119] 44 45 := by kernel_rfl
theorem ornd45 (s : ByteArray) : opL s 45 = opR s [99, 115, 114, 114, 115] 45 46 := by kernel_rfl
theorem ornd46 (s : ByteArray) : opL s 46 = opR s [99, 115, 114, 114, 99] 46 47 := by kernel_rfl
theorem ornd47 (s : ByteArray) : opL s 47 = opR s [99, 115, 114, 114, 119, 105] 47 48 := by kernel_rfl
theorem ornd48 (s : ByteArray) : opL s 48 = opR s [99, 115, 114, 114, 115, 105] 48 49 := by kernel_rfl
theorem ornd49 (s : ByteArray) : opL s 49 = opR s [99, 115, 114, 114, 99, 105] 49 50 := by kernel_rfl
theorem ornd50 (s : ByteArray) : opL s 50 = opR s [109, 117, 108] 50 51 := by kernel_rfl
theorem ornd51 (s : ByteArray) : opL s 51 = opR s [109, 117, 108, 104] 51 52 := by kernel_rfl
theorem ornd52 (s : ByteArray) : opL s 52 = opR s [109, 117, 108, 104, 115, 117] 52 53 := by kernel_rfl
theorem ornd53 (s : ByteArray) : opL s 53 = opR s [109, 117, 108, 104, 117] 53 54 := by kernel_rfl
theorem ornd54 (s : ByteArray) : opL s 54 = opR s [100, 105, 118] 54 55 := by kernel_rfl
theorem ornd55 (s : ByteArray) : opL s 55 = opR s [100, 105, 118, 117] 55 56 := by kernel_rfl
theorem ornd56 (s : ByteArray) : opL s 56 = opR s [114, 101, 109] 56 57 := by kernel_rfl
theorem ornd57 (s : ByteArray) : opL s 57 = opR s [114, 101, 109, 117] 57 58 := by kernel_rfl
theorem ornd58 (s : ByteArray) : opL s 58 = opR s [108, 114, 46, 119] 58 59 := by kernel_rfl
theorem ornd59 (s : ByteArray) : opL s 59 = opR s [115, 99, 46, 119] 59 60 := by kernel_rfl
theorem ornd60 (s : ByteArray) : opL s 60 = opR s [97, 109, 111, 115, 119, 97, 112, 46, 119] 60 61 := by kernel_rfl
theorem ornd61 (s : ByteArray) : opL s 61 = opR s [97, 109, 111, 97, 100, 100, 46, 119] 61 62 := by kernel_rfl
theorem ornd62 (s : ByteArray) : opL s 62 = opR s [97, 109, 111, 120, 111, 114, 46, 119] 62 63 := by kernel_rfl
theorem ornd63 (s : ByteArray) : opL s 63 = opR s [97, 109, 111, 97, 110, 100, 46, 119] 63 64 := by kernel_rfl
theorem ornd64 (s : ByteArray) : opL s 64 = opR s [97, 109, 111, 111, 114, 46, 119] 64 65 := by kernel_rfl
theorem ornd65 (s : ByteArray) : opL s 65 = opR s [97, 109, 111, 109, 105, 110, 46, 119] 65 66 := by kernel_rfl
theorem ornd66 (s : ByteArray) : opL s 66 = opR s [97, 109, 111, 109, 97, 120, 46, 119] 66 67 := by kernel_rfl
theorem ornd67 (s : ByteArray) : opL s 67 = opR s [97, 109, 111, 109, 105, 110, 117, 46, 119] 67 68 := by kernel_rfl
theorem ornd68 (s : ByteArray) : opL s 68 = opR s [97, 109, 111, 109, 97, 120, 117, 46, 119] 68 69 := by kernel_rfl
theorem ornd (s : ByteArray) : ∀ k : Nat, k < 69 → opL s (k : Int) = opR s (names.getD k []) (k : Int) ((k : Int) + 1)
  | 0, _ => ornd0 s
  | 1, _ => ornd1 s
  | 2, _ => ornd2 s
  | 3, _ => ornd3 s
  | 4, _ => ornd4 s
  | 5, _ => ornd5 s
  | 6, _ => ornd6 s
  | 7, _ => ornd7 s
  | 8, _ => ornd8 s
  | 9, _ => ornd9 s
  | 10, _ => ornd10 s
  | 11, _ => ornd11 s
  | 12, _ => ornd12 s
  | 13, _ => ornd13 s
  | 14, _ => ornd14 s
  | 15, _ => ornd15 s
  | 16, _ => ornd16 s
  | 17, _ => ornd17 s
  | 18, _ => ornd18 s
  | 19, _ => ornd19 s
  | 20, _ => ornd20 s
  | 21, _ => ornd21 s
  | 22, _ => ornd22 s
  | 23, _ => ornd23 s
  | 24, _ => ornd24 s
  | 25, _ => ornd25 s
  | 26, _ => ornd26 s
  | 27, _ => ornd27 s
  | 28, _ => ornd28 s
  | 29, _ => ornd29 s
  | 30, _ => ornd30 s
  | 31, _ => ornd31 s
  | 32, _ => ornd32 s
  | 33, _ => ornd33 s
  | 34, _ => ornd34 s
  | 35, _ => ornd35 s
  | 36, _ => ornd36 s
  | 37, _ => ornd37 s
  | 38, _ => ornd38 s
  | 39, _ => ornd39 s
  | 40, _ => ornd40 s
  | 41, _ => ornd41 s
  | 42, _ => ornd42 s
  | 43, _ => ornd43 s
  | 44, _ => ornd44 s
  | 45, _ => ornd45 s
  | 46, _ => ornd46 s
  | 47, _ => ornd47 s
  | 48, _ => ornd48 s
  | 49, _ => ornd49 s
  | 50, _ => ornd50 s
  | 51, _ => ornd51 s
  | 52, _ => ornd52 s
  | 53, _ => ornd53 s
  | 54, _ => ornd54 s
  | 55, _ => ornd55 s
  | 56, _ => ornd56 s
  | 57, _ => ornd57 s
  | 58, _ => ornd58 s
  | 59, _ => ornd59 s
  | 60, _ => ornd60 s
  | 61, _ => ornd61 s
  | 62, _ => ornd62 s
  | 63, _ => ornd63 s
  | 64, _ => ornd64 s
  | 65, _ => ornd65 s
  | 66, _ => ornd66 s
  | 67, _ => ornd67 s
  | 68, _ => ornd68 s
  | n + 69, h => absurd h (by omega)
theorem opFr_tr (s : ByteArray) (r k : Int) : ∀ x ∈ opFr s r k, Tr 0 x.2 := by
  intro x hx
  simp only [opFr, List.mem_cons, List.not_mem_nil, or_false] at hx
  rcases hx with rfl | rfl | rfl | rfl | rfl
  · exact Tr.plain rfl
  · exact Tr.plain rfl
  · exact Tr.gh (Gh.gs lit_gh)
  · exact Tr.plain rfl
  · exact Tr.plain rfl
theorem firstOf (p : Nat → Bool) : ∀ n, ∃ m, m ≤ n ∧ (∀ k, k < m → p k = false) ∧ (m < n → p m = true)
  | 0 => ⟨0, Nat.le_refl _, fun k h => by omega, fun h => by omega⟩
  | n + 1 => by
    obtain ⟨m, h1, h2, h3⟩ := firstOf p n
    by_cases hm : m < n
    · exact ⟨m, by omega, h2, fun _ => h3 hm⟩
    · cases hp : p n with
      | true => exact ⟨n, by omega, fun k hk => h2 k (by omega), fun _ => hp⟩
      | false => exact ⟨n + 1, Nat.le_refl _, fun k hk => by
          rcases Nat.lt_or_ge k m with h | h
          · exact h2 k h
          · rw [show k = n by omega]; exact hp, fun h => by omega⟩
def findOp (l : List UInt8) : List (List UInt8) → Int → Int
  | [], _ => 0
  | x :: r, k => bif x == l then k else findOp l r (k + 1)
def opF (l : List UInt8) : Int := findOp l names 1
theorem findOp_at (l : List UInt8) : ∀ (r : List (List UInt8)) (b : Int) (m : Nat), m ≤ r.length → (∀ k, k < m → (r.getD k [] == l) = false) → (m < r.length → (r.getD m [] == l) = true) → findOp l r b = if m < r.length then b + m else 0
  | [], b, m, hm, h1, h2 => by simp [findOp]
  | x :: r, b, 0, hm, h1, h2 => by
    have := h2 (by simp)
    simp only [List.getD_cons_zero] at this
    simp [findOp, this]
  | x :: r, b, m + 1, hm, h1, h2 => by
    have h0 := h1 0 (by omega)
    simp only [List.getD_cons_zero] at h0
    have ih := findOp_at l r (b + 1) m (by simpa using hm) (fun k hk => by have := h1 (k + 1) (by omega); simpa only [List.getD_cons_succ] using this) (fun hk => by have := h2 (by simpa using hk); simpa only [List.getD_cons_succ] using this)
    simp only [findOp, h0, cond_false, ih, List.length_cons, Nat.add_lt_add_iff_right]
    split
    · omega
    · rfl
theorem toList_bs (l : List UInt8) : (ByteArray.mk ⟨l⟩).toList = l := Lib.toList_data _
theorem op_call (l : List UInt8) : ∃ H', CallOK Tryz.prog 0 38 [sv l] [] (.int .i64 (opF l)) H' := by
  obtain ⟨m, h1, h2, h3⟩ := firstOf (fun k => names.getD k [] == l) 69
  have hop := findOp_at l names 1 m h1 h2 h3
  have hd : (flat (bodyOf 38)).all (drawsOK ((ctx rowsΦ).dr 38)) = true := by kernel_rfl
  have hdB : (flat opB).all (drawsOK ((ctx rowsΦ).dr 38)) = true := by kernel_rfl
  have hd1 : ((flat (bodyOf 38)).take 2).all (drawsOK ((ctx rowsΦ).dr 38)) = true := by kernel_rfl
  have hd2 : ((flat (bodyOf 38)).drop 3).all (drawsOK ((ctx rowsΦ).dr 38)) = true := by kernel_rfl
  have hhead := RowOK.of_see (H2 := []) rowsΦ_ok (ts := opK) rfl hd1 (op_head (bs l)) (by simp) rfl (opFr_tr _ _ _) (fun b hb => by simp at hb)
  have hs : ∀ k, ((ByteArray.mk ⟨names.getD k []⟩).toList == (bs l).toList) = (names.getD k [] == l) := fun k => by rw [toList_bs, toList_bs]
  have hround : ∀ k, k < m → CodeOK Tryz.prog 0 18 opB (opFr (bs l) 0 (k : Int)) [] .normal (opFr (bs l) 0 ((k + 1 : Nat) : Int)) [] := fun k hk => by
    have hr := ornd (bs l) k (by omega)
    unfold opL opR at hr
    rw [hs k, show (names.getD k [] == l) = false from h2 k hk, cond_false] at hr
    exact (RowOK.of_see (H2 := []) rowsΦ_ok (ts := opK) rfl hdB hr (by simp) rfl (opFr_tr _ _ _) (fun b hb => by simp at hb)).code
  obtain ⟨fn, f1, f2, f3, f4⟩ := fnOf fn38
  by_cases hm : m < 69
  · have hret : CodeOK Tryz.prog 0 18 opB (opFr (bs l) 0 (m : Int)) [] .ret (opFr (bs l) ((m : Int) + 1) (m : Int)) [] := by
      have hr := ornd (bs l) m hm
      unfold opL opR at hr
      rw [hs m, show (names.getD m [] == l) = true from h3 hm, cond_true] at hr
      exact (RowOK.of_see (H2 := []) rowsΦ_ok (ts := opK) rfl hdB hr (by simp) rfl (opFr_tr _ _ _) (fun b hb => by simp at hb)).code
    have hloop := CodeOK.loop (fun k => opFr (bs l) 0 (k : Int)) (fun _ => []) m (by simp) hround hret
    have hall := hhead.app (RowOK.left (CodeOK.row (CodeOK.block (id := 0) hloop)) (by simp [outOf]) ((flat (bodyOf 38)).drop 3))
    rw [← op_flat] at hall
    have hcall := CallOK.of_code rowsΦ_ok (f := 38) (fn := fn) (c := bodyOf 38) (args := [sv l]) (show (ctx rowsΦ).Fn 38 = some fn from f1) f2 (by rw [f3]; simp) (by rw [f3]; exact hall.code) (.inr rfl) (l := [.int .i64 (opF l)]) (by
      rw [f4]
      have : opF l = (m : Int) + 1 := by
        unfold opF; rw [hop, if_pos (show m < names.length from hm)]; omega
      rw [this]
      rfl)
    exact ⟨_, hcall⟩
  · obtain rfl : m = 69 := by omega
    have hend := (RowOK.of_see (H2 := []) rowsΦ_ok (ts := opK) rfl hdB (op_end (bs l)) (by simp) rfl (opFr_tr _ _ _) (fun b hb => by simp at hb)).code
    have htail := RowOK.of_see (H2 := []) rowsΦ_ok (ts := opK) rfl hd2 (op_tail (bs l)) (by simp) rfl (opFr_tr _ _ _) (fun b hb => by simp at hb)
    have hloop := CodeOK.loop (fun k => opFr (bs l) 0 (k : Int)) (fun _ => []) 69 (by simp) hround hend
    have hall := hhead.app (RowOK.app (CodeOK.row (CodeOK.block (id := 0) hloop)) htail)
    rw [← op_flat] at hall
    have hcall := CallOK.of_code rowsΦ_ok (f := 38) (fn := fn) (c := bodyOf 38) (args := [sv l]) (show (ctx rowsΦ).Fn 38 = some fn from f1) f2 (by rw [f3]; simp) (by rw [f3]; exact hall.code) (.inr rfl) (l := [.int .i64 (opF l)]) (by
      rw [f4]
      have : opF l = 0 := by
        unfold opF; rw [hop, if_neg (show ¬ 69 < names.length by decide)]
      rw [this]
      rfl)
    exact ⟨_, hcall⟩
theorem opOK (l : List UInt8) : PureOK Tryz.prog 38 [sv l] (.int .i64 (opF l)) := by
  obtain ⟨H', h⟩ := op_call l
  exact PureOK.of_call h (Gh.plain rfl)
end Go.Proofs.YtgkicojmgokinaaGreatDoor.Ab
