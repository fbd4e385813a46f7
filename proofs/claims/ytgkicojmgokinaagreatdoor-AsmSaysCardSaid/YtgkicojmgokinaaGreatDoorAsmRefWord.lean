/- Trimmed: AsmRefWord -/
import Derived.Test.YtgkicojmgokinaaGreatDoorAsmRef
namespace Go.Proofs.YtgkicojmgokinaaGreatDoor.Ab
open Go Go.RowKit
set_option linter.unusedVariables false
set_option linter.unusedSimpArgs false
set_option maxRecDepth 100000
def rwK (Ly : Int → Int → Int × Bool) (k : Nat) (i : Inst) : Option Value := bif (rrowAt k).whole != 0 then some (.int .u32 (rrowAt k).whole) else bif (Ly (rrowAt k).fmt i.imm).2 then some (.int .u32 (rwV Ly (rrowAt k) i)) else some (.int .u32 (rwV Ly (rrowAt k) i))
theorem rwK_eq (Ly : Int → Int → Int × Bool) (k : Nat) (i : Inst) : rwK Ly k i = some (.int .u32 (rwV Ly (rrowAt k) i)) := by
  unfold rwK
  cases h : ((rrowAt k).whole != 0)
  · cases (Ly (rrowAt k).fmt i.imm).2 <;> rfl
  · unfold rwV; rw [h]; rfl
noncomputable def rwL (Ly : Int → Int → Int × Bool) (k : Nat) (i : Inst) : Option Value := callK (ctx (rwΦ Ly)) 20 0 32 [.agg ⟨rrC (rrowAt k)⟩, instV i] [] (fun v _ => some v)
theorem rwk0 (Ly : Int → Int → Int × Bool) (op rd rs1 rs2 csr imm : Int) (aq rl : Bool) : rwL Ly 0 ⟨op, rd, rs1, rs2, csr, imm, aq, rl⟩ = rwK Ly 0 ⟨op, rd, rs1, rs2, csr, imm, aq, rl⟩ := by kernel_rfl
theorem rwk1 (Ly : Int → Int → Int × Bool) (op rd rs1 rs2 csr imm : Int) (aq rl : Bool) : rwL Ly 1 ⟨op, rd, rs1, rs2, csr, imm, aq, rl⟩ = rwK Ly 1 ⟨op, rd, rs1, rs2, csr, imm, aq, rl⟩ := by kernel_rfl
theorem rwk2 (Ly : Int → Int → Int × Bool) (op rd rs1 rs2 csr imm : Int) (aq rl : Bool) : rwL Ly 2 ⟨op, rd, rs1, rs2, csr, imm, aq, rl⟩ = rwK Ly 2 ⟨op, rd, rs1, rs2, csr, imm, aq, rl⟩ := by kernel_rfl
theorem rwk3 (Ly : Int → Int → Int × Bool) (op rd rs1 rs2 csr imm : Int) (aq rl : Bool) : rwL Ly 3 ⟨op, rd, rs1, rs2, csr, imm, aq, rl⟩ = rwK Ly 3 ⟨op, rd, rs1, rs2, csr, imm, aq, rl⟩ := by kernel_rfl
theorem rwk4 (Ly : Int → Int → Int × Bool) (op rd rs1 rs2 csr imm : Int) (aq rl : Bool) : rwL Ly 4 ⟨op, rd, rs1, rs2, csr, imm, aq, rl⟩ = rwK Ly 4 ⟨op, rd, rs1, rs2, csr, imm, aq, rl⟩ := by kernel_rfl
theorem rwk5 (Ly : Int → Int → Int × Bool) (op rd rs1 rs2 csr imm : Int) (aq rl : Bool) : rwL Ly 5 ⟨op, rd, rs1, rs2, csr, imm, aq, rl⟩ = rwK Ly 5 ⟨op, rd, rs1, rs2, csr, imm, aq, rl⟩ := by kernel_rfl
theorem rwk6 (Ly : Int → Int → Int × Bool) (op rd rs1 rs2 csr imm : Int) (aq rl : Bool) : rwL Ly 6 ⟨op, rd, rs1, rs2, csr, imm, aq, rl⟩ = rwK Ly 6 ⟨op, rd, rs1, rs2, csr, imm, aq, rl⟩ := by kernel_rfl
theorem rwk7 (Ly : Int → Int → Int × Bool) (op rd rs1 rs2 csr imm : Int) (aq rl : Bool) : rwL Ly 7 ⟨op, rd, rs1, rs2, csr, imm, aq, rl⟩ = rwK Ly 7 ⟨op, rd, rs1, rs2, csr, imm, aq, rl⟩ := by kernel_rfl
theorem rwk8 (Ly : Int → Int → Int × Bool) (op rd rs1 rs2 csr imm : Int) (aq rl : Bool) : rwL Ly 8 ⟨op, rd, rs1, rs2, csr, imm, aq, rl⟩ = rwK Ly 8 ⟨op, rd, rs1, rs2, csr, imm, aq, rl⟩ := by kernel_rfl
theorem rwk9 (Ly : Int → Int → Int × Bool) (op rd rs1 rs2 csr imm : Int) (aq rl : Bool) : rwL Ly 9 ⟨op, rd, rs1, rs2, csr, imm, aq, rl⟩ = rwK Ly 9 ⟨op, rd, rs1, rs2, csr, imm, aq, rl⟩ := by kernel_rfl
theorem rwk10 (Ly : Int → Int → Int × Bool) (op rd rs1 rs2 csr imm : Int) (aq rl : Bool) : rwL Ly 10 ⟨op, rd, rs1, rs2, csr, imm, aq, rl⟩ = rwK Ly 10 ⟨op, rd, rs1, rs2, csr, imm, aq, rl⟩ := by kernel_rfl
theorem rwk11 (Ly : Int → Int → Int × Bool) (op rd rs1 rs2 csr imm : Int) (aq rl : Bool) : rwL Ly 11 ⟨op, rd, rs1, rs2, csr, imm, aq, rl⟩ = rwK Ly 11 ⟨op, rd, rs1, rs2, csr, imm, aq, rl⟩ := by kernel_rfl
theorem rwk12 (Ly : Int → Int → Int × Bool) (op rd rs1 rs2 csr imm : Int) (aq rl : Bool) : rwL Ly 12 ⟨op, rd, rs1, rs2, csr, imm, aq, rl⟩ = rwK Ly 12 ⟨op, rd, rs1, rs2, csr, imm, aq, rl⟩ := by kernel_rfl
theorem rwk13 (Ly : Int → Int → Int × Bool) (op rd rs1 rs2 csr imm : Int) (aq rl : Bool) : rwL Ly 13 ⟨op, rd, rs1, rs2, csr, imm, aq, rl⟩ = rwK Ly 13 ⟨op, rd, rs1, rs2, csr, imm, aq, rl⟩ := by kernel_rfl
theorem rwk14 (Ly : Int → Int → Int × Bool) (op rd rs1 rs2 csr imm : Int) (aq rl : Bool) : rwL Ly 14 ⟨op, rd, rs1, rs2, csr, imm, aq, rl⟩ = rwK Ly 14 ⟨op, rd, rs1, rs2, csr, imm, aq, rl⟩ := by kernel_rfl
theorem rwk15 (Ly : Int → Int → Int × Bool) (op rd rs1 rs2 csr imm : Int) (aq rl : Bool) : rwL Ly 15 ⟨op, rd, rs1, rs2, csr, imm, aq, rl⟩ = rwK Ly 15 ⟨op, rd, rs1, rs2, csr, imm, aq, rl⟩ := by kernel_rfl
theorem rwk16 (Ly : Int → Int → Int × Bool) (op rd rs1 rs2 csr imm : Int) (aq rl : Bool) : rwL Ly 16 ⟨op, rd, rs1, rs2, csr, imm, aq, rl⟩ = rwK Ly 16 ⟨op, rd, rs1, rs2, csr, imm, aq, rl⟩ := by kernel_rfl
theorem rwk17 (Ly : Int → Int → Int × Bool) (op rd rs1 rs2 csr imm : Int) (aq rl : Bool) : rwL Ly 17 ⟨op, rd, rs1, rs2, csr, imm, aq, rl⟩ = rwK Ly 17 ⟨op, rd, rs1, rs2, csr, imm, aq, rl⟩ := by kernel_rfl
theorem rwk18 (Ly : Int → Int → Int × Bool) (op rd rs1 rs2 csr imm : Int) (aq rl : Bool) : rwL Ly 18 ⟨op, rd, rs1, rs2, csr, imm, aq, rl⟩ = rwK Ly 18 ⟨op, rd, rs1, rs2, csr, imm, aq, rl⟩ := by kernel_rfl
theorem rwk19 (Ly : Int → Int → Int × Bool) (op rd rs1 rs2 csr imm : Int) (aq rl : Bool) : rwL Ly 19 ⟨op, rd, rs1, rs2, csr, imm, aq, rl⟩ = rwK Ly 19 ⟨op, rd, rs1, rs2, csr, imm, aq, rl⟩ := by kernel_rfl
theorem rwk20 (Ly : Int → Int → Int × Bool) (op rd rs1 rs2 csr imm : Int) (aq rl : Bool) : rwL Ly 20 ⟨op, rd, rs1, rs2, csr, imm, aq, rl⟩ = rwK Ly 20 ⟨op, rd, rs1, rs2, csr, imm, aq, rl⟩ := by kernel_rfl
theorem rwk21 (Ly : Int → Int → Int × Bool) (op rd rs1 rs2 csr imm : Int) (aq rl : Bool) : rwL Ly 21 ⟨op, rd, rs1, rs2, csr, imm, aq, rl⟩ = rwK Ly 21 ⟨op, rd, rs1, rs2, csr, imm, aq, rl⟩ := by kernel_rfl
theorem rwk22 (Ly : Int → Int → Int × Bool) (op rd rs1 rs2 csr imm : Int) (aq rl : Bool) : rwL Ly 22 ⟨op, rd, rs1, rs2, csr, imm, aq, rl⟩ = rwK Ly 22 ⟨op, rd, rs1, rs2, csr, imm, aq, rl⟩ := by kernel_rfl
theorem rwk23 (Ly : Int → Int → Int × Bool) (op rd rs1 rs2 csr imm : Int) (aq rl : Bool) : rwL Ly 23 ⟨op, rd, rs1, rs2, csr, imm, aq, rl⟩ = rwK Ly 23 ⟨op, rd, rs1, rs2, csr, imm, aq, rl⟩ := by kernel_rfl
theorem rwk24 (Ly : Int → Int → Int × Bool) (op rd rs1 rs2 csr imm : Int) (aq rl : Bool) : rwL Ly 24 ⟨op, rd, rs1, rs2, csr, imm, aq, rl⟩ = rwK Ly 24 ⟨op, rd, rs1, rs2, csr, imm, aq, rl⟩ := by kernel_rfl
theorem rwk25 (Ly : Int → Int → Int × Bool) (op rd rs1 rs2 csr imm : Int) (aq rl : Bool) : rwL Ly 25 ⟨op, rd, rs1, rs2, csr, imm, aq, rl⟩ = rwK Ly 25 ⟨op, rd, rs1, rs2, csr, imm, aq, rl⟩ := by kernel_rfl
theorem rwk26 (Ly : Int → Int → Int × Bool) (op rd rs1 rs2 csr imm : Int) (aq rl : Bool) : rwL Ly 26 ⟨op, rd, rs1, rs2, csr, imm, aq, rl⟩ = rwK Ly 26 ⟨op, rd, rs1, rs2, csr, imm, aq, rl⟩ := by kernel_rfl
theorem rwk27 (Ly : Int → Int → Int × Bool) (op rd rs1 rs2 csr imm : Int) (aq rl : Bool) : rwL Ly 27 ⟨op, rd, rs1, rs2, csr, imm, aq, rl⟩ = rwK Ly 27 ⟨op, rd, rs1, rs2, csr, imm, aq, rl⟩ := by kernel_rfl
theorem rwk28 (Ly : Int → Int → Int × Bool) (op rd rs1 rs2 csr imm : Int) (aq rl : Bool) : rwL Ly 28 ⟨op, rd, rs1, rs2, csr, imm, aq, rl⟩ = rwK Ly 28 ⟨op, rd, rs1, rs2, csr, imm, aq, rl⟩ := by kernel_rfl
theorem rwk29 (Ly : Int → Int → Int × Bool) (op rd rs1 rs2 csr imm : Int) (aq rl : Bool) : rwL Ly 29 ⟨op, rd, rs1, rs2, csr, imm, aq, rl⟩ = rwK Ly 29 ⟨op, rd, rs1, rs2, csr, imm, aq, rl⟩ := by kernel_rfl
theorem rwk30 (Ly : Int → Int → Int × Bool) (op rd rs1 rs2 csr imm : Int) (aq rl : Bool) : rwL Ly 30 ⟨op, rd, rs1, rs2, csr, imm, aq, rl⟩ = rwK Ly 30 ⟨op, rd, rs1, rs2, csr, imm, aq, rl⟩ := by kernel_rfl
theorem rwk31 (Ly : Int → Int → Int × Bool) (op rd rs1 rs2 csr imm : Int) (aq rl : Bool) : rwL Ly 31 ⟨op, rd, rs1, rs2, csr, imm, aq, rl⟩ = rwK Ly 31 ⟨op, rd, rs1, rs2, csr, imm, aq, rl⟩ := by kernel_rfl
theorem rwk32 (Ly : Int → Int → Int × Bool) (op rd rs1 rs2 csr imm : Int) (aq rl : Bool) : rwL Ly 32 ⟨op, rd, rs1, rs2, csr, imm, aq, rl⟩ = rwK Ly 32 ⟨op, rd, rs1, rs2, csr, imm, aq, rl⟩ := by kernel_rfl
theorem rwk33 (Ly : Int → Int → Int × Bool) (op rd rs1 rs2 csr imm : Int) (aq rl : Bool) : rwL Ly 33 ⟨op, rd, rs1, rs2, csr, imm, aq, rl⟩ = rwK Ly 33 ⟨op, rd, rs1, rs2, csr, imm, aq, rl⟩ := by kernel_rfl
theorem rwk34 (Ly : Int → Int → Int × Bool) (op rd rs1 rs2 csr imm : Int) (aq rl : Bool) : rwL Ly 34 ⟨op, rd, rs1, rs2, csr, imm, aq, rl⟩ = rwK Ly 34 ⟨op, rd, rs1, rs2, csr, imm, aq, rl⟩ := by kernel_rfl
theorem rwk35 (Ly : Int → Int → Int × Bool) (op rd rs1 rs2 csr imm : Int) (aq rl : Bool) : rwL Ly 35 ⟨op, rd, rs1, rs2, csr, imm, aq, rl⟩ = rwK Ly 35 ⟨op, rd, rs1, rs2, csr, imm, aq, rl⟩ := by kernel_rfl
theorem rwk36 (Ly : Int → Int → Int × Bool) (op rd rs1 rs2 csr imm : Int) (aq rl : Bool) : rwL Ly 36 ⟨op, rd, rs1, rs2, csr, imm, aq, rl⟩ = rwK Ly 36 ⟨op, rd, rs1, rs2, csr, imm, aq, rl⟩ := by kernel_rfl
theorem rwk37 (Ly : Int → Int → Int × Bool) (op rd rs1 rs2 csr imm : Int) (aq rl : Bool) : rwL Ly 37 ⟨op, rd, rs1, rs2, csr, imm, aq, rl⟩ = rwK Ly 37 ⟨op, rd, rs1, rs2, csr, imm, aq, rl⟩ := by kernel_rfl
theorem rwk38 (Ly : Int → Int → Int × Bool) (op rd rs1 rs2 csr imm : Int) (aq rl : Bool) : rwL Ly 38 ⟨op, rd, rs1, rs2, csr, imm, aq, rl⟩ = rwK Ly 38 ⟨op, rd, rs1, rs2, csr, imm, aq, rl⟩ := by kernel_rfl
theorem rwk39 (Ly : Int → Int → Int × Bool) (op rd rs1 rs2 csr imm : Int) (aq rl : Bool) : rwL Ly 39 ⟨op, rd, rs1, rs2, csr, imm, aq, rl⟩ = rwK Ly 39 ⟨op, rd, rs1, rs2, csr, imm, aq, rl⟩ := by kernel_rfl
theorem rwk40 (Ly : Int → Int → Int × Bool) (op rd rs1 rs2 csr imm : Int) (aq rl : Bool) : rwL Ly 40 ⟨op, rd, rs1, rs2, csr, imm, aq, rl⟩ = rwK Ly 40 ⟨op, rd, rs1, rs2, csr, imm, aq, rl⟩ := by kernel_rfl
theorem rwk41 (Ly : Int → Int → Int × Bool) (op rd rs1 rs2 csr imm : Int) (aq rl : Bool) : rwL Ly 41 ⟨op, rd, rs1, rs2, csr, imm, aq, rl⟩ = rwK Ly 41 ⟨op, rd, rs1, rs2, csr, imm, aq, rl⟩ := by kernel_rfl
theorem rwk42 (Ly : Int → Int → Int × Bool) (op rd rs1 rs2 csr imm : Int) (aq rl : Bool) : rwL Ly 42 ⟨op, rd, rs1, rs2, csr, imm, aq, rl⟩ = rwK Ly 42 ⟨op, rd, rs1, rs2, csr, imm, aq, rl⟩ := by kernel_rfl
theorem rwk43 (Ly : Int → Int → Int × Bool) (op rd rs1 rs2 csr imm : Int) (aq rl : Bool) : rwL Ly 43 ⟨op, rd, rs1, rs2, csr, imm, aq, rl⟩ = rwK Ly 43 ⟨op, rd, rs1, rs2, csr, imm, aq, rl⟩ := by kernel_rfl
theorem rwk44 (Ly : Int → Int → Int × Bool) (op rd rs1 rs2 csr imm : Int) (aq rl : Bool) : rwL Ly 44 ⟨op, rd, rs1, rs2, csr, imm, aq, rl⟩ = rwK Ly 44 ⟨op, rd, rs1, rs2, csr, imm, aq, rl⟩ := by kernel_rfl
theorem rwk45 (Ly : Int → Int → Int × Bool) (op rd rs1 rs2 csr imm : Int) (aq rl : Bool) : rwL Ly 45 ⟨op, rd, rs1, rs2, csr, imm, aq, rl⟩ = rwK Ly 45 ⟨op, rd, rs1, rs2, csr, imm, aq, rl⟩ := by kernel_rfl
theorem rwk46 (Ly : Int → Int → Int × Bool) (op rd rs1 rs2 csr imm : Int) (aq rl : Bool) : rwL Ly 46 ⟨op, rd, rs1, rs2, csr, imm, aq, rl⟩ = rwK Ly 46 ⟨op, rd, rs1, rs2, csr, imm, aq, rl⟩ := by kernel_rfl
theorem rwk47 (Ly : Int → Int → Int × Bool) (op rd rs1 rs2 csr imm : Int) (aq rl : Bool) : rwL Ly 47 ⟨op, rd, rs1, rs2, csr, imm, aq, rl⟩ = rwK Ly 47 ⟨op, rd, rs1, rs2, csr, imm, aq, rl⟩ := by kernel_rfl
theorem rwk48 (Ly : Int → Int → Int × Bool) (op rd rs1 rs2 csr imm : Int) (aq rl : Bool) : rwL Ly 48 ⟨op, rd, rs1, rs2, csr, imm, aq, rl⟩ = rwK Ly 48 ⟨op, rd, rs1, rs2, csr, imm, aq, rl⟩ := by kernel_rfl
theorem rwk49 (Ly : Int → Int → Int × Bool) (op rd rs1 rs2 csr imm : Int) (aq rl : Bool) : rwL Ly 49 ⟨op, rd, rs1, rs2, csr, imm, aq, rl⟩ = rwK Ly 49 ⟨op, rd, rs1, rs2, csr, imm, aq, rl⟩ := by kernel_rfl
theorem rwk50 (Ly : Int → Int → Int × Bool) (op rd rs1 rs2 csr imm : Int) (aq rl : Bool) : rwL Ly 50 ⟨op, rd, rs1, rs2, csr, imm, aq, rl⟩ = rwK Ly 50 ⟨op, rd, rs1, rs2, csr, imm, aq, rl⟩ := by kernel_rfl
theorem rwk51 (Ly : Int → Int → Int × Bool) (op rd rs1 rs2 csr imm : Int) (aq rl : Bool) : rwL Ly 51 ⟨op, rd, rs1, rs2, csr, imm, aq, rl⟩ = rwK Ly 51 ⟨op, rd, rs1, rs2, csr, imm, aq, rl⟩ := by kernel_rfl
theorem rwk52 (Ly : Int → Int → Int × Bool) (op rd rs1 rs2 csr imm : Int) (aq rl : Bool) : rwL Ly 52 ⟨op, rd, rs1, rs2, csr, imm, aq, rl⟩ = rwK Ly 52 ⟨op, rd, rs1, rs2, csr, imm, aq, rl⟩ := by kernel_rfl
theorem rwk53 (Ly : Int → Int → Int × Bool) (op rd rs1 rs2 csr imm : Int) (aq rl : Bool) : rwL Ly 53 ⟨op, rd, rs1, rs2, csr, imm, aq, rl⟩ = rwK Ly 53 ⟨op, rd, rs1, rs2, csr, imm, aq, rl⟩ := by kernel_rfl
theorem rwk54 (Ly : Int → Int → Int × Bool) (op rd rs1 rs2 csr imm : Int) (aq rl : Bool) : rwL Ly 54 ⟨op, rd, rs1, rs2, csr, imm, aq, rl⟩ = rwK Ly 54 ⟨op, rd, rs1, rs2, csr, imm, aq, rl⟩ := by kernel_rfl
theorem rwk55 (Ly : Int → Int → Int × Bool) (op rd rs1 rs2 csr imm : Int) (aq rl : Bool) : rwL Ly 55 ⟨op, rd, rs1, rs2, csr, imm, aq, rl⟩ = rwK Ly 55 ⟨op, rd, rs1, rs2, csr, imm, aq, rl⟩ := by kernel_rfl
theorem rwk56 (Ly : Int → Int → Int × Bool) (op rd rs1 rs2 csr imm : Int) (aq rl : Bool) : rwL Ly 56 ⟨op, rd, rs1, rs2, csr, imm, aq, rl⟩ = rwK Ly 56 ⟨op, rd, rs1, rs2, csr, imm, aq, rl⟩ := by kernel_rfl
theorem rwk57 (Ly : Int → Int → Int × Bool) (op rd rs1 rs2 csr imm : Int) (aq rl : Bool) : rwL Ly 57 ⟨op, rd, rs1, rs2, csr, imm, aq, rl⟩ = rwK Ly 57 ⟨op, rd, rs1, rs2, csr, imm, aq, rl⟩ := by kernel_rfl
theorem rwk58_true_true (Ly : Int → Int → Int × Bool) (op rd rs1 rs2 csr imm : Int) : rwL Ly 58 ⟨op, rd, rs1, rs2, csr, imm, true, true⟩ = rwK Ly 58 ⟨op, rd, rs1, rs2, csr, imm, true, true⟩ := by kernel_rfl
theorem rwk58_true_false (Ly : Int → Int → Int × Bool) (op rd rs1 rs2 csr imm : Int) : rwL Ly 58 ⟨op, rd, rs1, rs2, csr, imm, true, false⟩ = rwK Ly 58 ⟨op, rd, rs1, rs2, csr, imm, true, false⟩ := by kernel_rfl
theorem rwk58_false_true (Ly : Int → Int → Int × Bool) (op rd rs1 rs2 csr imm : Int) : rwL Ly 58 ⟨op, rd, rs1, rs2, csr, imm, false, true⟩ = rwK Ly 58 ⟨op, rd, rs1, rs2, csr, imm, false, true⟩ := by kernel_rfl
theorem rwk58_false_false (Ly : Int → Int → Int × Bool) (op rd rs1 rs2 csr imm : Int) : rwL Ly 58 ⟨op, rd, rs1, rs2, csr, imm, false, false⟩ = rwK Ly 58 ⟨op, rd, rs1, rs2, csr, imm, false, false⟩ := by kernel_rfl
theorem rwk58 (Ly : Int → Int → Int × Bool) (op rd rs1 rs2 csr imm : Int) : ∀ aq rl : Bool, rwL Ly 58 ⟨op, rd, rs1, rs2, csr, imm, aq, rl⟩ = rwK Ly 58 ⟨op, rd, rs1, rs2, csr, imm, aq, rl⟩
  | true, true => rwk58_true_true Ly op rd rs1 rs2 csr imm
  | true, false => rwk58_true_false Ly op rd rs1 rs2 csr imm
  | false, true => rwk58_false_true Ly op rd rs1 rs2 csr imm
  | false, false => rwk58_false_false Ly op rd rs1 rs2 csr imm
theorem rwk59_true_true (Ly : Int → Int → Int × Bool) (op rd rs1 rs2 csr imm : Int) : rwL Ly 59 ⟨op, rd, rs1, rs2, csr, imm, true, true⟩ = rwK Ly 59 ⟨op, rd, rs1, rs2, csr, imm, true, true⟩ := by kernel_rfl
theorem rwk59_true_false (Ly : Int → Int → Int × Bool) (op rd rs1 rs2 csr imm : Int) : rwL Ly 59 ⟨op, rd, rs1, rs2, csr, imm, true, false⟩ = rwK Ly 59 ⟨op, rd, rs1, rs2, csr, imm, true, false⟩ := by kernel_rfl
theorem rwk59_false_true (Ly : Int → Int → Int × Bool) (op rd rs1 rs2 csr imm : Int) : rwL Ly 59 ⟨op, rd, rs1, rs2, csr, imm, false, true⟩ = rwK Ly 59 ⟨op, rd, rs1, rs2, csr, imm, false, true⟩ := by kernel_rfl
theorem rwk59_false_false (Ly : Int → Int → Int × Bool) (op rd rs1 rs2 csr imm : Int) : rwL Ly 59 ⟨op, rd, rs1, rs2, csr, imm, false, false⟩ = rwK Ly 59 ⟨op, rd, rs1, rs2, csr, imm, false, false⟩ := by kernel_rfl
theorem rwk59 (Ly : Int → Int → Int × Bool) (op rd rs1 rs2 csr imm : Int) : ∀ aq rl : Bool, rwL Ly 59 ⟨op, rd, rs1, rs2, csr, imm, aq, rl⟩ = rwK Ly 59 ⟨op, rd, rs1, rs2, csr, imm, aq, rl⟩
  | true, true => rwk59_true_true Ly op rd rs1 rs2 csr imm
  | true, false => rwk59_true_false Ly op rd rs1 rs2 csr imm
  | false, true => rwk59_false_true Ly op rd rs1 rs2 csr imm
  | false, false => rwk59_false_false Ly op rd rs1 rs2 csr imm
theorem rwk60_true_true (Ly : Int → Int → Int × Bool) (op rd rs1 rs2 csr imm : Int) : rwL Ly 60 ⟨op, rd, rs1, rs2, csr, imm, true, true⟩ = rwK Ly 60 ⟨op, rd, rs1, rs2, csr, imm, true, true⟩ := by kernel_rfl
theorem rwk60_true_false (Ly : Int → Int → Int × Bool) (op rd rs1 rs2 csr imm : Int) : rwL Ly 60 ⟨op, rd, rs1, rs2, csr, imm, true, false⟩ = rwK Ly 60 ⟨op, rd, rs1, rs2, csr, imm, true, false⟩ := by kernel_rfl
theorem rwk60_false_true (Ly : Int → Int → Int × Bool) (op rd rs1 rs2 csr imm : Int) : rwL Ly 60 ⟨op, rd, rs1, rs2, csr, imm, false, true⟩ = rwK Ly 60 ⟨op, rd, rs1, rs2, csr, imm, false, true⟩ := by kernel_rfl
theorem rwk60_false_false (Ly : Int → Int → Int × Bool) (op rd rs1 rs2 csr imm : Int) : rwL Ly 60 ⟨op, rd, rs1, rs2, csr, imm, false, false⟩ = rwK Ly 60 ⟨op, rd, rs1, rs2, csr, imm, false, false⟩ := by kernel_rfl
theorem rwk60 (Ly : Int → Int → Int × Bool) (op rd rs1 rs2 csr imm : Int) : ∀ aq rl : Bool, rwL Ly 60 ⟨op, rd, rs1, rs2, csr, imm, aq, rl⟩ = rwK Ly 60 ⟨op, rd, rs1, rs2, csr, imm, aq, rl⟩
  | true, true => rwk60_true_true Ly op rd rs1 rs2 csr imm
  | true, false => rwk60_true_false Ly op rd rs1 rs2 csr imm
  | false, true => rwk60_false_true Ly op rd rs1 rs2 csr imm
  | false, false => rwk60_false_false Ly op rd rs1 rs2 csr imm
theorem rwk61_true_true (Ly : Int → Int → Int × Bool) (op rd rs1 rs2 csr imm : Int) : rwL Ly 61 ⟨op, rd, rs1, rs2, csr, imm, true, true⟩ = rwK Ly 61 ⟨op, rd, rs1, rs2, csr, imm, true, true⟩ := by kernel_rfl
theorem rwk61_true_false (Ly : Int → Int → Int × Bool) (op rd rs1 rs2 csr imm : Int) : rwL Ly 61 ⟨op, rd, rs1, rs2, csr, imm, true, false⟩ = rwK Ly 61 ⟨op, rd, rs1, rs2, csr, imm, true, false⟩ := by kernel_rfl
theorem rwk61_false_true (Ly : Int → Int → Int × Bool) (op rd rs1 rs2 csr imm : Int) : rwL Ly 61 ⟨op, rd, rs1, rs2, csr, imm, false, true⟩ = rwK Ly 61 ⟨op, rd, rs1, rs2, csr, imm, false, true⟩ := by kernel_rfl
theorem rwk61_false_false (Ly : Int → Int → Int × Bool) (op rd rs1 rs2 csr imm : Int) : rwL Ly 61 ⟨op, rd, rs1, rs2, csr, imm, false, false⟩ = rwK Ly 61 ⟨op, rd, rs1, rs2, csr, imm, false, false⟩ := by kernel_rfl
theorem rwk61 (Ly : Int → Int → Int × Bool) (op rd rs1 rs2 csr imm : Int) : ∀ aq rl : Bool, rwL Ly 61 ⟨op, rd, rs1, rs2, csr, imm, aq, rl⟩ = rwK Ly 61 ⟨op, rd, rs1, rs2, csr, imm, aq, rl⟩
  | true, true => rwk61_true_true Ly op rd rs1 rs2 csr imm
  | true, false => rwk61_true_false Ly op rd rs1 rs2 csr imm
  | false, true => rwk61_false_true Ly op rd rs1 rs2 csr imm
  | false, false => rwk61_false_false Ly op rd rs1 rs2 csr imm
theorem rwk62_true_true (Ly : Int → Int → Int × Bool) (op rd rs1 rs2 csr imm : Int) : rwL Ly 62 ⟨op, rd, rs1, rs2, csr, imm, true, true⟩ = rwK Ly 62 ⟨op, rd, rs1, rs2, csr, imm, true, true⟩ := by kernel_rfl
theorem rwk62_true_false (Ly : Int → Int → Int × Bool) (op rd rs1 rs2 csr imm : Int) : rwL Ly 62 ⟨op, rd, rs1, rs2, csr, imm, true, false⟩ = rwK Ly 62 ⟨op, rd, rs1, rs2, csr, imm, true, false⟩ := by kernel_rfl
theorem rwk62_false_true (Ly : Int → Int → Int × Bool) (op rd rs1 rs2 csr imm : Int) : rwL Ly 62 ⟨op, rd, rs1, rs2, csr, imm, false, true⟩ = rwK Ly 62 ⟨op, rd, rs1, rs2, csr, imm, false, true⟩ := by kernel_rfl
theorem rwk62_false_false (Ly : Int → Int → Int × Bool) (op rd rs1 rs2 csr imm : Int) : rwL Ly 62 ⟨op, rd, rs1, rs2, csr, imm, false, false⟩ = rwK Ly 62 ⟨op, rd, rs1, rs2, csr, imm, false, false⟩ := by kernel_rfl
theorem rwk62 (Ly : Int → Int → Int × Bool) (op rd rs1 rs2 csr imm : Int) : ∀ aq rl : Bool, rwL Ly 62 ⟨op, rd, rs1, rs2, csr, imm, aq, rl⟩ = rwK Ly 62 ⟨op, rd, rs1, rs2, csr, imm, aq, rl⟩
  | true, true => rwk62_true_true Ly op rd rs1 rs2 csr imm
  | true, false => rwk62_true_false Ly op rd rs1 rs2 csr imm
  | false, true => rwk62_false_true Ly op rd rs1 rs2 csr imm
  | false, false => rwk62_false_false Ly op rd rs1 rs2 csr imm
theorem rwk63_true_true (Ly : Int → Int → Int × Bool) (op rd rs1 rs2 csr imm : Int) : rwL Ly 63 ⟨op, rd, rs1, rs2, csr, imm, true, true⟩ = rwK Ly 63 ⟨op, rd, rs1, rs2, csr, imm, true, true⟩ := by kernel_rfl
theorem rwk63_true_false (Ly : Int → Int → Int × Bool) (op rd rs1 rs2 csr imm : Int) : rwL Ly 63 ⟨op, rd, rs1, rs2, csr, imm, true, false⟩ = rwK Ly 63 ⟨op, rd, rs1, rs2, csr, imm, true, false⟩ := by kernel_rfl
theorem rwk63_false_true (Ly : Int → Int → Int × Bool) (op rd rs1 rs2 csr imm : Int) : rwL Ly 63 ⟨op, rd, rs1, rs2, csr, imm, false, true⟩ = rwK Ly 63 ⟨op, rd, rs1, rs2, csr, imm, false, true⟩ := by kernel_rfl
theorem rwk63_false_false (Ly : Int → Int → Int × Bool) (op rd rs1 rs2 csr imm : Int) : rwL Ly 63 ⟨op, rd, rs1, rs2, csr, imm, false, false⟩ = rwK Ly 63 ⟨op, rd, rs1, rs2, csr, imm, false, false⟩ := by kernel_rfl
theorem rwk63 (Ly : Int → Int → Int × Bool) (op rd rs1 rs2 csr imm : Int) : ∀ aq rl : Bool, rwL Ly 63 ⟨op, rd, rs1, rs2, csr, imm, aq, rl⟩ = rwK Ly 63 ⟨op, rd, rs1, rs2, csr, imm, aq, rl⟩
  | true, true => rwk63_true_true Ly op rd rs1 rs2 csr imm
  | true, false => rwk63_true_false Ly op rd rs1 rs2 csr imm
  | false, true => rwk63_false_true Ly op rd rs1 rs2 csr imm
  | false, false => rwk63_false_false Ly op rd rs1 rs2 csr imm
theorem rwk64_true_true (Ly : Int → Int → Int × Bool) (op rd rs1 rs2 csr imm : Int) : rwL Ly 64 ⟨op, rd, rs1, rs2, csr, imm, true, true⟩ = rwK Ly 64 ⟨op, rd, rs1, rs2, csr, imm, true, true⟩ := by kernel_rfl
theorem rwk64_true_false (Ly : Int → Int → Int × Bool) (op rd rs1 rs2 csr imm : Int) : rwL Ly 64 ⟨op, rd, rs1, rs2, csr, imm, true, false⟩ = rwK Ly 64 ⟨op, rd, rs1, rs2, csr, imm, true, false⟩ := by kernel_rfl
theorem rwk64_false_true (Ly : Int → Int → Int × Bool) (op rd rs1 rs2 csr imm : Int) : rwL Ly 64 ⟨op, rd, rs1, rs2, csr, imm, false, true⟩ = rwK Ly 64 ⟨op, rd, rs1, rs2, csr, imm, false, true⟩ := by kernel_rfl
theorem rwk64_false_false (Ly : Int → Int → Int × Bool) (op rd rs1 rs2 csr imm : Int) : rwL Ly 64 ⟨op, rd, rs1, rs2, csr, imm, false, false⟩ = rwK Ly 64 ⟨op, rd, rs1, rs2, csr, imm, false, false⟩ := by kernel_rfl
theorem rwk64 (Ly : Int → Int → Int × Bool) (op rd rs1 rs2 csr imm : Int) : ∀ aq rl : Bool, rwL Ly 64 ⟨op, rd, rs1, rs2, csr, imm, aq, rl⟩ = rwK Ly 64 ⟨op, rd, rs1, rs2, csr, imm, aq, rl⟩
  | true, true => rwk64_true_true Ly op rd rs1 rs2 csr imm
  | true, false => rwk64_true_false Ly op rd rs1 rs2 csr imm
  | false, true => rwk64_false_true Ly op rd rs1 rs2 csr imm
  | false, false => rwk64_false_false Ly op rd rs1 rs2 csr imm
theorem rwk65_true_true (Ly : Int → Int → Int × Bool) (op rd rs1 rs2 csr imm : Int) : rwL Ly 65 ⟨op, rd, rs1, rs2, csr, imm, true, true⟩ = rwK Ly 65 ⟨op, rd, rs1, rs2, csr, imm, true, true⟩ := by kernel_rfl
theorem rwk65_true_false (Ly : Int → Int → Int × Bool) (op rd rs1 rs2 csr imm : Int) : rwL Ly 65 ⟨op, rd, rs1, rs2, csr, imm, true, false⟩ = rwK Ly 65 ⟨op, rd, rs1, rs2, csr, imm, true, false⟩ := by kernel_rfl
theorem rwk65_false_true (Ly : Int → Int → Int × Bool) (op rd rs1 rs2 csr imm : Int) : rwL Ly 65 ⟨op, rd, rs1, rs2, csr, imm, false, true⟩ = rwK Ly 65 ⟨op, rd, rs1, rs2, csr, imm, false, true⟩ := by kernel_rfl
theorem rwk65_false_false (Ly : Int → Int → Int × Bool) (op rd rs1 rs2 csr imm : Int) : rwL Ly 65 ⟨op, rd, rs1, rs2, csr, imm, false, false⟩ = rwK Ly 65 ⟨op, rd, rs1, rs2, csr, imm, false, false⟩ := by kernel_rfl
theorem rwk65 (Ly : Int → Int → Int × Bool) (op rd rs1 rs2 csr imm : Int) : ∀ aq rl : Bool, rwL Ly 65 ⟨op, rd, rs1, rs2, csr, imm, aq, rl⟩ = rwK Ly 65 ⟨op, rd, rs1, rs2, csr, imm, aq, rl⟩
  | true, true => rwk65_true_true Ly op rd rs1 rs2 csr imm
  | true, false => rwk65_true_false Ly op rd rs1 rs2 csr imm
  | false, true => rwk65_false_true Ly op rd rs1 rs2 csr imm
  | false, false => rwk65_false_false Ly op rd rs1 rs2 csr imm
theorem rwk66_true_true (Ly : Int → Int → Int × Bool) (op rd rs1 rs2 csr imm : Int) : rwL Ly 66 ⟨op, rd, rs1, rs2, csr, imm, true, true⟩ = rwK Ly 66 ⟨op, rd, rs1, rs2, csr, imm, true, true⟩ := by kernel_rfl
theorem rwk66_true_false (Ly : Int → Int → Int × Bool) (op rd rs1 rs2 csr imm : Int) : rwL Ly 66 ⟨op, rd, rs1, rs2, csr, imm, true, false⟩ = rwK Ly 66 ⟨op, rd, rs1, rs2, csr, imm, true, false⟩ := by kernel_rfl
theorem rwk66_false_true (Ly : Int → Int → Int × Bool) (op rd rs1 rs2 csr imm : Int) : rwL Ly 66 ⟨op, rd, rs1, rs2, csr, imm, false, true⟩ = rwK Ly 66 ⟨op, rd, rs1, rs2, csr, imm, false, true⟩ := by kernel_rfl
theorem rwk66_false_false (Ly : Int → Int → Int × Bool) (op rd rs1 rs2 csr imm : Int) : rwL Ly 66 ⟨op, rd, rs1, rs2, csr, imm, false, false⟩ = rwK Ly 66 ⟨op, rd, rs1, rs2, csr, imm, false, false⟩ := by kernel_rfl
theorem rwk66 (Ly : Int → Int → Int × Bool) (op rd rs1 rs2 csr imm : Int) : ∀ aq rl : Bool, rwL Ly 66 ⟨op, rd, rs1, rs2, csr, imm, aq, rl⟩ = rwK Ly 66 ⟨op, rd, rs1, rs2, csr, imm, aq, rl⟩
  | true, true => rwk66_true_true Ly op rd rs1 rs2 csr imm
  | true, false => rwk66_true_false Ly op rd rs1 rs2 csr imm
  | false, true => rwk66_false_true Ly op rd rs1 rs2 csr imm
  | false, false => rwk66_false_false Ly op rd rs1 rs2 csr imm
theorem rwk67_true_true (Ly : Int → Int → Int × Bool) (op rd rs1 rs2 csr imm : Int) : rwL Ly 67 ⟨op, rd, rs1, rs2, csr, imm, true, true⟩ = rwK Ly 67 ⟨op, rd, rs1, rs2, csr, imm, true, true⟩ := by kernel_rfl
theorem rwk67_true_false (Ly : Int → Int → Int × Bool) (op rd rs1 rs2 csr imm : Int) : rwL Ly 67 ⟨op, rd, rs1, rs2, csr, imm, true, false⟩ = rwK Ly 67 ⟨op, rd, rs1, rs2, csr, imm, true, false⟩ := by kernel_rfl
theorem rwk67_false_true (Ly : Int → Int → Int × Bool) (op rd rs1 rs2 csr imm : Int) : rwL Ly 67 ⟨op, rd, rs1, rs2, csr, imm, false, true⟩ = rwK Ly 67 ⟨op, rd, rs1, rs2, csr, imm, false, true⟩ := by kernel_rfl
theorem rwk67_false_false (Ly : Int → Int → Int × Bool) (op rd rs1 rs2 csr imm : Int) : rwL Ly 67 ⟨op, rd, rs1, rs2, csr, imm, false, false⟩ = rwK Ly 67 ⟨op, rd, rs1, rs2, csr, imm, false, false⟩ := by kernel_rfl
theorem rwk67 (Ly : Int → Int → Int × Bool) (op rd rs1 rs2 csr imm : Int) : ∀ aq rl : Bool, rwL Ly 67 ⟨op, rd, rs1, rs2, csr, imm, aq, rl⟩ = rwK Ly 67 ⟨op, rd, rs1, rs2, csr, imm, aq, rl⟩
  | true, true => rwk67_true_true Ly op rd rs1 rs2 csr imm
  | true, false => rwk67_true_false Ly op rd rs1 rs2 csr imm
  | false, true => rwk67_false_true Ly op rd rs1 rs2 csr imm
  | false, false => rwk67_false_false Ly op rd rs1 rs2 csr imm
theorem rwk68_true_true (Ly : Int → Int → Int × Bool) (op rd rs1 rs2 csr imm : Int) : rwL Ly 68 ⟨op, rd, rs1, rs2, csr, imm, true, true⟩ = rwK Ly 68 ⟨op, rd, rs1, rs2, csr, imm, true, true⟩ := by kernel_rfl
theorem rwk68_true_false (Ly : Int → Int → Int × Bool) (op rd rs1 rs2 csr imm : Int) : rwL Ly 68 ⟨op, rd, rs1, rs2, csr, imm, true, false⟩ = rwK Ly 68 ⟨op, rd, rs1, rs2, csr, imm, true, false⟩ := by kernel_rfl
theorem rwk68_false_true (Ly : Int → Int → Int × Bool) (op rd rs1 rs2 csr imm : Int) : rwL Ly 68 ⟨op, rd, rs1, rs2, csr, imm, false, true⟩ = rwK Ly 68 ⟨op, rd, rs1, rs2, csr, imm, false, true⟩ := by kernel_rfl
theorem rwk68_false_false (Ly : Int → Int → Int × Bool) (op rd rs1 rs2 csr imm : Int) : rwL Ly 68 ⟨op, rd, rs1, rs2, csr, imm, false, false⟩ = rwK Ly 68 ⟨op, rd, rs1, rs2, csr, imm, false, false⟩ := by kernel_rfl
theorem rwk68 (Ly : Int → Int → Int × Bool) (op rd rs1 rs2 csr imm : Int) : ∀ aq rl : Bool, rwL Ly 68 ⟨op, rd, rs1, rs2, csr, imm, aq, rl⟩ = rwK Ly 68 ⟨op, rd, rs1, rs2, csr, imm, aq, rl⟩
  | true, true => rwk68_true_true Ly op rd rs1 rs2 csr imm
  | true, false => rwk68_true_false Ly op rd rs1 rs2 csr imm
  | false, true => rwk68_false_true Ly op rd rs1 rs2 csr imm
  | false, false => rwk68_false_false Ly op rd rs1 rs2 csr imm
theorem rwAll (Ly : Int → Int → Int × Bool) (i : Inst) : ∀ k : Nat, k < 69 → rwL Ly k i = rwK Ly k i
  | 0, _ => rwk0 Ly i.op i.rd i.rs1 i.rs2 i.csr i.imm i.aq i.rl
  | 1, _ => rwk1 Ly i.op i.rd i.rs1 i.rs2 i.csr i.imm i.aq i.rl
  | 2, _ => rwk2 Ly i.op i.rd i.rs1 i.rs2 i.csr i.imm i.aq i.rl
  | 3, _ => rwk3 Ly i.op i.rd i.rs1 i.rs2 i.csr i.imm i.aq i.rl
  | 4, _ => rwk4 Ly i.op i.rd i.rs1 i.rs2 i.csr i.imm i.aq i.rl
  | 5, _ => rwk5 Ly i.op i.rd i.rs1 i.rs2 i.csr i.imm i.aq i.rl
  | 6, _ => rwk6 Ly i.op i.rd i.rs1 i.rs2 i.csr i.imm i.aq i.rl
  | 7, _ => rwk7 Ly i.op i.rd i.rs1 i.rs2 i.csr i.imm i.aq i.rl
  | 8, _ => rwk8 Ly i.op i.rd i.rs1 i.rs2 i.csr i.imm i.aq i.rl
  | 9, _ => rwk9 Ly i.op i.rd i.rs1 i.rs2 i.csr i.imm i.aq i.rl
  | 10, _ => rwk10 Ly i.op i.rd i.rs1 i.rs2 i.csr i.imm i.aq i.rl
  | 11, _ => rwk11 Ly i.op i.rd i.rs1 i.rs2 i.csr i.imm i.aq i.rl
  | 12, _ => rwk12 Ly i.op i.rd i.rs1 i.rs2 i.csr i.imm i.aq i.rl
  | 13, _ => rwk13 Ly i.op i.rd i.rs1 i.rs2 i.csr i.imm i.aq i.rl
  | 14, _ => rwk14 Ly i.op i.rd i.rs1 i.rs2 i.csr i.imm i.aq i.rl
  | 15, _ => rwk15 Ly i.op i.rd i.rs1 i.rs2 i.csr i.imm i.aq i.rl
  | 16, _ => rwk16 Ly i.op i.rd i.rs1 i.rs2 i.csr i.imm i.aq i.rl
  | 17, _ => rwk17 Ly i.op i.rd i.rs1 i.rs2 i.csr i.imm i.aq i.rl
  | 18, _ => rwk18 Ly i.op i.rd i.rs1 i.rs2 i.csr i.imm i.aq i.rl
  | 19, _ => rwk19 Ly i.op i.rd i.rs1 i.rs2 i.csr i.imm i.aq i.rl
  | 20, _ => rwk20 Ly i.op i.rd i.rs1 i.rs2 i.csr i.imm i.aq i.rl
  | 21, _ => rwk21 Ly i.op i.rd i.rs1 i.rs2 i.csr i.imm i.aq i.rl
  | 22, _ => rwk22 Ly i.op i.rd i.rs1 i.rs2 i.csr i.imm i.aq i.rl
  | 23, _ => rwk23 Ly i.op i.rd i.rs1 i.rs2 i.csr i.imm i.aq i.rl
  | 24, _ => rwk24 Ly i.op i.rd i.rs1 i.rs2 i.csr i.imm i.aq i.rl
  | 25, _ => rwk25 Ly i.op i.rd i.rs1 i.rs2 i.csr i.imm i.aq i.rl
  | 26, _ => rwk26 Ly i.op i.rd i.rs1 i.rs2 i.csr i.imm i.aq i.rl
  | 27, _ => rwk27 Ly i.op i.rd i.rs1 i.rs2 i.csr i.imm i.aq i.rl
  | 28, _ => rwk28 Ly i.op i.rd i.rs1 i.rs2 i.csr i.imm i.aq i.rl
  | 29, _ => rwk29 Ly i.op i.rd i.rs1 i.rs2 i.csr i.imm i.aq i.rl
  | 30, _ => rwk30 Ly i.op i.rd i.rs1 i.rs2 i.csr i.imm i.aq i.rl
  | 31, _ => rwk31 Ly i.op i.rd i.rs1 i.rs2 i.csr i.imm i.aq i.rl
  | 32, _ => rwk32 Ly i.op i.rd i.rs1 i.rs2 i.csr i.imm i.aq i.rl
  | 33, _ => rwk33 Ly i.op i.rd i.rs1 i.rs2 i.csr i.imm i.aq i.rl
  | 34, _ => rwk34 Ly i.op i.rd i.rs1 i.rs2 i.csr i.imm i.aq i.rl
  | 35, _ => rwk35 Ly i.op i.rd i.rs1 i.rs2 i.csr i.imm i.aq i.rl
  | 36, _ => rwk36 Ly i.op i.rd i.rs1 i.rs2 i.csr i.imm i.aq i.rl
  | 37, _ => rwk37 Ly i.op i.rd i.rs1 i.rs2 i.csr i.imm i.aq i.rl
  | 38, _ => rwk38 Ly i.op i.rd i.rs1 i.rs2 i.csr i.imm i.aq i.rl
  | 39, _ => rwk39 Ly i.op i.rd i.rs1 i.rs2 i.csr i.imm i.aq i.rl
  | 40, _ => rwk40 Ly i.op i.rd i.rs1 i.rs2 i.csr i.imm i.aq i.rl
  | 41, _ => rwk41 Ly i.op i.rd i.rs1 i.rs2 i.csr i.imm i.aq i.rl
  | 42, _ => rwk42 Ly i.op i.rd i.rs1 i.rs2 i.csr i.imm i.aq i.rl
  | 43, _ => rwk43 Ly i.op i.rd i.rs1 i.rs2 i.csr i.imm i.aq i.rl
  | 44, _ => rwk44 Ly i.op i.rd i.rs1 i.rs2 i.csr i.imm i.aq i.rl
  | 45, _ => rwk45 Ly i.op i.rd i.rs1 i.rs2 i.csr i.imm i.aq i.rl
  | 46, _ => rwk46 Ly i.op i.rd i.rs1 i.rs2 i.csr i.imm i.aq i.rl
  | 47, _ => rwk47 Ly i.op i.rd i.rs1 i.rs2 i.csr i.imm i.aq i.rl
  | 48, _ => rwk48 Ly i.op i.rd i.rs1 i.rs2 i.csr i.imm i.aq i.rl
  | 49, _ => rwk49 Ly i.op i.rd i.rs1 i.rs2 i.csr i.imm i.aq i.rl
  | 50, _ => rwk50 Ly i.op i.rd i.rs1 i.rs2 i.csr i.imm i.aq i.rl
  | 51, _ => rwk51 Ly i.op i.rd i.rs1 i.rs2 i.csr i.imm i.aq i.rl
  | 52, _ => rwk52 Ly i.op i.rd i.rs1 i.rs2 i.csr i.imm i.aq i.rl
  | 53, _ => rwk53 Ly i.op i.rd i.rs1 i.rs2 i.csr i.imm i.aq i.rl
  | 54, _ => rwk54 Ly i.op i.rd i.rs1 i.rs2 i.csr i.imm i.aq i.rl
  | 55, _ => rwk55 Ly i.op i.rd i.rs1 i.rs2 i.csr i.imm i.aq i.rl
  | 56, _ => rwk56 Ly i.op i.rd i.rs1 i.rs2 i.csr i.imm i.aq i.rl
  | 57, _ => rwk57 Ly i.op i.rd i.rs1 i.rs2 i.csr i.imm i.aq i.rl
  | 58, _ => rwk58 Ly i.op i.rd i.rs1 i.rs2 i.csr i.imm i.aq i.rl
  | 59, _ => rwk59 Ly i.op i.rd i.rs1 i.rs2 i.csr i.imm i.aq i.rl
  | 60, _ => rwk60 Ly i.op i.rd i.rs1 i.rs2 i.csr i.imm i.aq i.rl
  | 61, _ => rwk61 Ly i.op i.rd i.rs1 i.rs2 i.csr i.imm i.aq i.rl
  | 62, _ => rwk62 Ly i.op i.rd i.rs1 i.rs2 i.csr i.imm i.aq i.rl
  | 63, _ => rwk63 Ly i.op i.rd i.rs1 i.rs2 i.csr i.imm i.aq i.rl
  | 64, _ => rwk64 Ly i.op i.rd i.rs1 i.rs2 i.csr i.imm i.aq i.rl
  | 65, _ => rwk65 Ly i.op i.rd i.rs1 i.rs2 i.csr i.imm i.aq i.rl
  | 66, _ => rwk66 Ly i.op i.rd i.rs1 i.rs2 i.csr i.imm i.aq i.rl
  | 67, _ => rwk67 Ly i.op i.rd i.rs1 i.rs2 i.csr i.imm i.aq i.rl
  | 68, _ => rwk68 Ly i.op i.rd i.rs1 i.rs2 i.csr i.imm i.aq i.rl
  | n + 69, h => absurd h (by omega)
theorem rwOK {r : RRow} {i : Inst} (h : isRow r = true) : PureOK Tryz.prog 32 [.agg ⟨rrC r⟩, instV i] (.int .u32 (rwV rlyV r i)) := by
  simp only [isRow, Bool.and_eq_true, decide_eq_true_eq] at h
  obtain ⟨h1, h2, h3⟩ := h
  have := (rwAll rlyV i (r.op - 1).toNat (by omega)).trans (rwK_eq rlyV _ i)
  rw [h3]
  exact PureOK.of_run rwΦ_ok this (Gh.plain rfl)
end Go.Proofs.YtgkicojmgokinaaGreatDoor.Ab
