/- Trimmed: AsmSayOf -/
import Derived.Test.YtgkicojmgokinaaGreatDoorAsmRefWord
namespace Go.Proofs.YtgkicojmgokinaaGreatDoor.Ab
open Go Go.RowKit
set_option linter.unusedVariables false
set_option linter.unusedSimpArgs false
set_option maxRecDepth 100000
noncomputable def ofΦ  : Oracle := fun lo f args H => match f with
  | 42 => match args with
    | [] => some [(true, gs 14 rlit 69, H)]
    | _ => none
  | _ => none
theorem ofΦ_ok : CtxOK Tryz.prog (ctx ofΦ) := ctxOK fun lo f args H l v H' h hm => by
  unfold ofΦ at h
  split at h
  · split at h
    · cases h
      simp only [List.mem_cons, List.not_mem_nil, or_false, Prod.mk.injEq] at hm
      obtain ⟨hc, rfl, rfl⟩ := hm
      exact ⟨rrowsOK.call (fun a h => by cases h) lo H', rfl⟩
    · cases h
  · cases h
noncomputable def ofL (k : Nat) : Option Value := callK (ctx ofΦ) 80 0 29 [.int .i64 ((k : Int) + 1)] [] (fun v _ => some v)
def ofV (k : Nat) : Value := .tuple ⟨[.agg ⟨rrC (rrowAt k)⟩, .bool true]⟩
theorem of0 : ofL 0 = some (ofV 0) := by kernel_rfl
theorem of1 : ofL 1 = some (ofV 1) := by kernel_rfl
theorem of2 : ofL 2 = some (ofV 2) := by kernel_rfl
theorem of3 : ofL 3 = some (ofV 3) := by kernel_rfl
theorem of4 : ofL 4 = some (ofV 4) := by kernel_rfl
theorem of5 : ofL 5 = some (ofV 5) := by kernel_rfl
theorem of6 : ofL 6 = some (ofV 6) := by kernel_rfl
theorem of7 : ofL 7 = some (ofV 7) := by kernel_rfl
theorem of8 : ofL 8 = some (ofV 8) := by kernel_rfl
theorem of9 : ofL 9 = some (ofV 9) := by kernel_rfl
theorem of10 : ofL 10 = some (ofV 10) := by kernel_rfl
theorem of11 : ofL 11 = some (ofV 11) := by kernel_rfl
theorem of12 : ofL 12 = some (ofV 12) := by kernel_rfl
theorem of13 : ofL 13 = some (ofV 13) := by kernel_rfl
theorem of14 : ofL 14 = some (ofV 14) := by kernel_rfl
theorem of15 : ofL 15 = some (ofV 15) := by kernel_rfl
theorem of16 : ofL 16 = some (ofV 16) := by kernel_rfl
theorem of17 : ofL 17 = some (ofV 17) := by kernel_rfl
theorem of18 : ofL 18 = some (ofV 18) := by kernel_rfl
theorem of19 : ofL 19 = some (ofV 19) := by kernel_rfl
theorem of20 : ofL 20 = some (ofV 20) := by kernel_rfl
theorem of21 : ofL 21 = some (ofV 21) := by kernel_rfl
theorem of22 : ofL 22 = some (ofV 22) := by kernel_rfl
theorem of23 : ofL 23 = some (ofV 23) := by kernel_rfl
theorem of24 : ofL 24 = some (ofV 24) := by kernel_rfl
theorem of25 : ofL 25 = some (ofV 25) := by kernel_rfl
theorem of26 : ofL 26 = some (ofV 26) := by kernel_rfl
theorem of27 : ofL 27 = some (ofV 27) := by kernel_rfl
theorem of28 : ofL 28 = some (ofV 28) := by kernel_rfl
theorem of29 : ofL 29 = some (ofV 29) := by kernel_rfl
theorem of30 : ofL 30 = some (ofV 30) := by kernel_rfl
theorem of31 : ofL 31 = some (ofV 31) := by kernel_rfl
theorem of32 : ofL 32 = some (ofV 32) := by kernel_rfl
theorem of33 : ofL 33 = some (ofV 33) := by kernel_rfl
theorem of34 : ofL 34 = some (ofV 34) := by kernel_rfl
theorem of35 : ofL 35 = some (ofV 35) := by kernel_rfl
theorem of36 : ofL 36 = some (ofV 36) := by kernel_rfl
theorem of37 : ofL 37 = some (ofV 37) := by kernel_rfl
theorem of38 : ofL 38 = some (ofV 38) := by kernel_rfl
theorem of39 : ofL 39 = some (ofV 39) := by kernel_rfl
theorem of40 : ofL 40 = some (ofV 40) := by kernel_rfl
theorem of41 : ofL 41 = some (ofV 41) := by kernel_rfl
theorem of42 : ofL 42 = some (ofV 42) := by kernel_rfl
theorem of43 : ofL 43 = some (ofV 43) := by kernel_rfl
theorem of44 : ofL 44 = some (ofV 44) := by kernel_rfl
theorem of45 : ofL 45 = some (ofV 45) := by kernel_rfl
theorem of46 : ofL 46 = some (ofV 46) := by kernel_rfl
theorem of47 : ofL 47 = some (ofV 47) := by kernel_rfl
theorem of48 : ofL 48 = some (ofV 48) := by kernel_rfl
theorem of49 : ofL 49 = some (ofV 49) := by kernel_rfl
theorem of50 : ofL 50 = some (ofV 50) := by kernel_rfl
theorem of51 : ofL 51 = some (ofV 51) := by kernel_rfl
theorem of52 : ofL 52 = some (ofV 52) := by kernel_rfl
theorem of53 : ofL 53 = some (ofV 53) := by kernel_rfl
theorem of54 : ofL 54 = some (ofV 54) := by kernel_rfl
theorem of55 : ofL 55 = some (ofV 55) := by kernel_rfl
theorem of56 : ofL 56 = some (ofV 56) := by kernel_rfl
theorem of57 : ofL 57 = some (ofV 57) := by kernel_rfl
theorem of58 : ofL 58 = some (ofV 58) := by kernel_rfl
theorem of59 : ofL 59 = some (ofV 59) := by kernel_rfl
theorem of60 : ofL 60 = some (ofV 60) := by kernel_rfl
theorem of61 : ofL 61 = some (ofV 61) := by kernel_rfl
theorem of62 : ofL 62 = some (ofV 62) := by kernel_rfl
theorem of63 : ofL 63 = some (ofV 63) := by kernel_rfl
theorem of64 : ofL 64 = some (ofV 64) := by kernel_rfl
theorem of65 : ofL 65 = some (ofV 65) := by kernel_rfl
theorem of66 : ofL 66 = some (ofV 66) := by kernel_rfl
theorem of67 : ofL 67 = some (ofV 67) := by kernel_rfl
theorem of68 : ofL 68 = some (ofV 68) := by kernel_rfl
theorem ofAll : ∀ k : Nat, k < 69 → ofL k = some (ofV k)
  | 0, _ => of0
  | 1, _ => of1
  | 2, _ => of2
  | 3, _ => of3
  | 4, _ => of4
  | 5, _ => of5
  | 6, _ => of6
  | 7, _ => of7
  | 8, _ => of8
  | 9, _ => of9
  | 10, _ => of10
  | 11, _ => of11
  | 12, _ => of12
  | 13, _ => of13
  | 14, _ => of14
  | 15, _ => of15
  | 16, _ => of16
  | 17, _ => of17
  | 18, _ => of18
  | 19, _ => of19
  | 20, _ => of20
  | 21, _ => of21
  | 22, _ => of22
  | 23, _ => of23
  | 24, _ => of24
  | 25, _ => of25
  | 26, _ => of26
  | 27, _ => of27
  | 28, _ => of28
  | 29, _ => of29
  | 30, _ => of30
  | 31, _ => of31
  | 32, _ => of32
  | 33, _ => of33
  | 34, _ => of34
  | 35, _ => of35
  | 36, _ => of36
  | 37, _ => of37
  | 38, _ => of38
  | 39, _ => of39
  | 40, _ => of40
  | 41, _ => of41
  | 42, _ => of42
  | 43, _ => of43
  | 44, _ => of44
  | 45, _ => of45
  | 46, _ => of46
  | 47, _ => of47
  | 48, _ => of48
  | 49, _ => of49
  | 50, _ => of50
  | 51, _ => of51
  | 52, _ => of52
  | 53, _ => of53
  | 54, _ => of54
  | 55, _ => of55
  | 56, _ => of56
  | 57, _ => of57
  | 58, _ => of58
  | 59, _ => of59
  | 60, _ => of60
  | 61, _ => of61
  | 62, _ => of62
  | 63, _ => of63
  | 64, _ => of64
  | 65, _ => of65
  | 66, _ => of66
  | 67, _ => of67
  | 68, _ => of68
  | n + 69, h => absurd h (by omega)
theorem ofOK {op : Int} (h : isOp op = true) : PureOK Tryz.prog 29 [.int .i64 op] (ofV (op - 1).toNat) := by
  simp only [isOp, Bool.and_eq_true, decide_eq_true_eq] at h
  have := ofAll (op - 1).toNat (by omega)
  unfold ofL at this
  rw [show (((op - 1).toNat : Nat) : Int) + 1 = op by omega] at this
  exact PureOK.of_run ofΦ_ok this (Gh.plain rfl)
noncomputable def of0Φ : Oracle := fun lo f args H => match f with
  | 42 => some []
  | _ => none
theorem of0Φ_ok : CtxOK Tryz.prog (ctx of0Φ) := ctxOK fun lo f args H l v H' h hm => by
  unfold of0Φ at h
  split at h
  · cases h
    cases hm
  · cases h
def ofNo : Value := .tuple ⟨[.agg ⟨rrC noRow⟩, .bool false]⟩
theorem of_no (op : Int) : callK (ctx of0Φ) 20 0 29 [.int .i64 op] [] (fun v _ => some v) = bif decide (op < 1) then some ofNo else bif decide (op > 69) then some ofNo else none := by kernel_rfl
theorem ofNoOK {op : Int} (h : isOp op = false) : PureOK Tryz.prog 29 [.int .i64 op] ofNo := by
  refine PureOK.of_run of0Φ_ok ((of_no op).trans ?_) (Gh.plain rfl)
  have : ¬ (1 ≤ op ∧ op ≤ 69) := fun hh => by
    have : isOp op = true := by simp only [isOp, Bool.and_eq_true, decide_eq_true_eq]; exact hh
    rw [this] at h; cases h
  by_cases h1 : op < 1
  · rw [decide_eq_true h1]; rfl
  · rw [decide_eq_false h1, decide_eq_true (show op > 69 by omega)]; rfl
end Go.Proofs.YtgkicojmgokinaaGreatDoor.Ab
