/- The words that the statements build: each is what Word answers, and is decoded to its instruction. Written by gen_words.py. -/
import Derived.Test.YtbcikaoklpekhaaDepWord
namespace Go.Proofs.Ytbcikaoklpekhaa.Ab
open Go Go.RowKit
set_option linter.unusedVariables false
set_option linter.unusedSimpArgs false
set_option maxRecDepth 100000
theorem word_of {op a b c i w : Int} (h : callK (ctx wdΦ) 90 0 13 [.int .i64 op, .int .i64 a, .int .i64 b, .int .i64 c, .int .u32 i] [] (fun v _ => some v) = some (.int .u32 w)) : PureOK Try.prog 13 [.int .i64 op, .int .i64 a, .int .i64 b, .int .i64 c, .int .u32 i] (.int .u32 w) :=
  PureOK.of_run wdΦ_ok h (Gh.plain rfl)
theorem w_Lw_1_2_0_0 : PureOK Try.prog 13 [.int .i64 13, .int .i64 1, .int .i64 2, .int .i64 0, .int .u32 0] (.int .u32 73859) := word_of (by kernel_rfl)
theorem d_Lw_1_2_0_0 : dec 73859 = (⟨13, 1, 2, 0, 0, 0, false, false⟩, true) := by kernel_rfl
theorem w_Sw_0_3_1_0 : PureOK Try.prog 13 [.int .i64 18, .int .i64 0, .int .i64 3, .int .i64 1, .int .u32 0] (.int .u32 1155107) := word_of (by kernel_rfl)
theorem d_Sw_0_3_1_0 : dec 1155107 = (⟨18, 0, 3, 1, 0, 0, false, false⟩, true) := by kernel_rfl
theorem w_Beq_0_1_0_8 : PureOK Try.prog 13 [.int .i64 5, .int .i64 0, .int .i64 1, .int .i64 0, .int .u32 8] (.int .u32 33891) := word_of (by kernel_rfl)
theorem d_Beq_0_1_0_8 : dec 33891 = (⟨5, 0, 1, 0, 0, 8, false, false⟩, true) := by kernel_rfl
theorem w_Sw_0_3_4_0 : PureOK Try.prog 13 [.int .i64 18, .int .i64 0, .int .i64 3, .int .i64 4, .int .u32 0] (.int .u32 4300835) := word_of (by kernel_rfl)
theorem d_Sw_0_3_4_0 : dec 4300835 = (⟨18, 0, 3, 4, 0, 0, false, false⟩, true) := by kernel_rfl
theorem w_Lw_1_0_0_0 : PureOK Try.prog 13 [.int .i64 13, .int .i64 1, .int .i64 0, .int .i64 0, .int .u32 0] (.int .u32 8323) := word_of (by kernel_rfl)
theorem d_Lw_1_0_0_0 : dec 8323 = (⟨13, 1, 0, 0, 0, 0, false, false⟩, true) := by kernel_rfl
theorem w_Beq_0_1_2_8 : PureOK Try.prog 13 [.int .i64 5, .int .i64 0, .int .i64 1, .int .i64 2, .int .u32 8] (.int .u32 2131043) := word_of (by kernel_rfl)
theorem d_Beq_0_1_2_8 : dec 2131043 = (⟨5, 0, 1, 2, 0, 8, false, false⟩, true) := by kernel_rfl
theorem w_Jalr_0_1_0_0 : PureOK Try.prog 13 [.int .i64 4, .int .i64 0, .int .i64 1, .int .i64 0, .int .u32 0] (.int .u32 32871) := word_of (by kernel_rfl)
theorem d_Jalr_0_1_0_0 : dec 32871 = (⟨4, 0, 1, 0, 0, 0, false, false⟩, true) := by kernel_rfl
theorem w_Lw_1_5_0_0 : PureOK Try.prog 13 [.int .i64 13, .int .i64 1, .int .i64 5, .int .i64 0, .int .u32 0] (.int .u32 172163) := word_of (by kernel_rfl)
theorem d_Lw_1_5_0_0 : dec 172163 = (⟨13, 1, 5, 0, 0, 0, false, false⟩, true) := by kernel_rfl
theorem w_Lw_2_5_0_0 : PureOK Try.prog 13 [.int .i64 13, .int .i64 2, .int .i64 5, .int .i64 0, .int .u32 0] (.int .u32 172291) := word_of (by kernel_rfl)
theorem d_Lw_2_5_0_0 : dec 172291 = (⟨13, 2, 5, 0, 0, 0, false, false⟩, true) := by kernel_rfl
theorem w_Sb_0_2_1_0 : PureOK Try.prog 13 [.int .i64 16, .int .i64 0, .int .i64 2, .int .i64 1, .int .u32 0] (.int .u32 1114147) := word_of (by kernel_rfl)
theorem d_Sb_0_2_1_0 : dec 1114147 = (⟨16, 0, 2, 1, 0, 0, false, false⟩, true) := by kernel_rfl
theorem w_Fence_0_0_0_51 : PureOK Try.prog 13 [.int .i64 38, .int .i64 0, .int .i64 0, .int .i64 0, .int .u32 51] (.int .u32 53477391) := word_of (by kernel_rfl)
theorem d_Fence_0_0_0_51 : dec 53477391 = (⟨38, 0, 0, 0, 0, 51, false, false⟩, true) := by kernel_rfl
theorem w_Sc_1_2_3_0 : PureOK Try.prog 13 [.int .i64 60, .int .i64 1, .int .i64 2, .int .i64 3, .int .u32 0] (.int .u32 405872815) := word_of (by kernel_rfl)
theorem d_Sc_1_2_3_0 : dec 405872815 = (⟨60, 1, 2, 3, 0, 0, false, false⟩, true) := by kernel_rfl
theorem w_Swap_1_2_3_0 : PureOK Try.prog 13 [.int .i64 61, .int .i64 1, .int .i64 2, .int .i64 3, .int .u32 0] (.int .u32 137437359) := word_of (by kernel_rfl)
theorem d_Swap_1_2_3_0 : dec 137437359 = (⟨61, 1, 2, 3, 0, 0, false, false⟩, true) := by kernel_rfl
theorem w_Add_1_2_3_0 : PureOK Try.prog 13 [.int .i64 28, .int .i64 1, .int .i64 2, .int .i64 3, .int .u32 0] (.int .u32 3211443) := word_of (by kernel_rfl)
theorem d_Add_1_2_3_0 : dec 3211443 = (⟨28, 1, 2, 3, 0, 0, false, false⟩, true) := by kernel_rfl
end Go.Proofs.Ytbcikaoklpekhaa.Ab
