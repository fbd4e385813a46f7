/- The words that the statements build: each is what Word answers, and is decoded to its instruction. Written by gen_words.py. -/
import Derived.Test.YtbcikaoklpekhaaDepWordsA
namespace Go.Proofs.Ytbcikaoklpekhaa.Ab
open Go Go.RowKit
set_option linter.unusedVariables false
set_option linter.unusedSimpArgs false
set_option maxRecDepth 100000
theorem w_Add_2_1_0_0 : PureOK Try.prog 13 [.int .i64 28, .int .i64 2, .int .i64 1, .int .i64 0, .int .u32 0] (.int .u32 33075) := word_of (by kernel_rfl)
theorem d_Add_2_1_0_0 : dec 33075 = (⟨28, 2, 1, 0, 0, 0, false, false⟩, true) := by kernel_rfl
theorem w_Lui_2_0_0_4096 : PureOK Try.prog 13 [.int .i64 1, .int .i64 2, .int .i64 0, .int .i64 0, .int .u32 4096] (.int .u32 4407) := word_of (by kernel_rfl)
theorem d_Lui_2_0_0_4096 : dec 4407 = (⟨1, 2, 0, 0, 0, 4096, false, false⟩, true) := by kernel_rfl
theorem w_Sw_0_2_0_0 : PureOK Try.prog 13 [.int .i64 18, .int .i64 0, .int .i64 2, .int .i64 0, .int .u32 0] (.int .u32 73763) := word_of (by kernel_rfl)
theorem d_Sw_0_2_0_0 : dec 73763 = (⟨18, 0, 2, 0, 0, 0, false, false⟩, true) := by kernel_rfl
theorem w_Sw_0_0_2_0 : PureOK Try.prog 13 [.int .i64 18, .int .i64 0, .int .i64 0, .int .i64 2, .int .u32 0] (.int .u32 2105379) := word_of (by kernel_rfl)
theorem d_Sw_0_0_2_0 : dec 2105379 = (⟨18, 0, 0, 2, 0, 0, false, false⟩, true) := by kernel_rfl
theorem w_Add_3_2_0_0 : PureOK Try.prog 13 [.int .i64 28, .int .i64 3, .int .i64 2, .int .i64 0, .int .u32 0] (.int .u32 65971) := word_of (by kernel_rfl)
theorem d_Add_3_2_0_0 : dec 65971 = (⟨28, 3, 2, 0, 0, 0, false, false⟩, true) := by kernel_rfl
theorem w_Lui_3_0_0_4096 : PureOK Try.prog 13 [.int .i64 1, .int .i64 3, .int .i64 0, .int .i64 0, .int .u32 4096] (.int .u32 4535) := word_of (by kernel_rfl)
theorem d_Lui_3_0_0_4096 : dec 4535 = (⟨1, 3, 0, 0, 0, 4096, false, false⟩, true) := by kernel_rfl
theorem w_Sw_0_3_0_0 : PureOK Try.prog 13 [.int .i64 18, .int .i64 0, .int .i64 3, .int .i64 0, .int .u32 0] (.int .u32 106531) := word_of (by kernel_rfl)
theorem d_Sw_0_3_0_0 : dec 106531 = (⟨18, 0, 3, 0, 0, 0, false, false⟩, true) := by kernel_rfl
theorem w_Sw_0_0_3_0 : PureOK Try.prog 13 [.int .i64 18, .int .i64 0, .int .i64 0, .int .i64 3, .int .u32 0] (.int .u32 3153955) := word_of (by kernel_rfl)
theorem d_Sw_0_0_3_0 : dec 3153955 = (⟨18, 0, 0, 3, 0, 0, false, false⟩, true) := by kernel_rfl
theorem w_Add_4_3_0_0 : PureOK Try.prog 13 [.int .i64 28, .int .i64 4, .int .i64 3, .int .i64 0, .int .u32 0] (.int .u32 98867) := word_of (by kernel_rfl)
theorem d_Add_4_3_0_0 : dec 98867 = (⟨28, 4, 3, 0, 0, 0, false, false⟩, true) := by kernel_rfl
theorem w_Lui_4_0_0_4096 : PureOK Try.prog 13 [.int .i64 1, .int .i64 4, .int .i64 0, .int .i64 0, .int .u32 4096] (.int .u32 4663) := word_of (by kernel_rfl)
theorem d_Lui_4_0_0_4096 : dec 4663 = (⟨1, 4, 0, 0, 0, 4096, false, false⟩, true) := by kernel_rfl
theorem w_Sw_0_4_0_0 : PureOK Try.prog 13 [.int .i64 18, .int .i64 0, .int .i64 4, .int .i64 0, .int .u32 0] (.int .u32 139299) := word_of (by kernel_rfl)
theorem d_Sw_0_4_0_0 : dec 139299 = (⟨18, 0, 4, 0, 0, 0, false, false⟩, true) := by kernel_rfl
theorem w_Sw_0_0_4_0 : PureOK Try.prog 13 [.int .i64 18, .int .i64 0, .int .i64 0, .int .i64 4, .int .u32 0] (.int .u32 4202531) := word_of (by kernel_rfl)
theorem d_Sw_0_0_4_0 : dec 4202531 = (⟨18, 0, 0, 4, 0, 0, false, false⟩, true) := by kernel_rfl
theorem w_Add_5_4_0_0 : PureOK Try.prog 13 [.int .i64 28, .int .i64 5, .int .i64 4, .int .i64 0, .int .u32 0] (.int .u32 131763) := word_of (by kernel_rfl)
theorem d_Add_5_4_0_0 : dec 131763 = (⟨28, 5, 4, 0, 0, 0, false, false⟩, true) := by kernel_rfl
theorem w_Lui_5_0_0_4096 : PureOK Try.prog 13 [.int .i64 1, .int .i64 5, .int .i64 0, .int .i64 0, .int .u32 4096] (.int .u32 4791) := word_of (by kernel_rfl)
theorem d_Lui_5_0_0_4096 : dec 4791 = (⟨1, 5, 0, 0, 0, 4096, false, false⟩, true) := by kernel_rfl
theorem w_Sw_0_5_0_0 : PureOK Try.prog 13 [.int .i64 18, .int .i64 0, .int .i64 5, .int .i64 0, .int .u32 0] (.int .u32 172067) := word_of (by kernel_rfl)
theorem d_Sw_0_5_0_0 : dec 172067 = (⟨18, 0, 5, 0, 0, 0, false, false⟩, true) := by kernel_rfl
theorem w_Sw_0_0_5_0 : PureOK Try.prog 13 [.int .i64 18, .int .i64 0, .int .i64 0, .int .i64 5, .int .u32 0] (.int .u32 5251107) := word_of (by kernel_rfl)
theorem d_Sw_0_0_5_0 : dec 5251107 = (⟨18, 0, 0, 5, 0, 0, false, false⟩, true) := by kernel_rfl
theorem w_Add_6_5_0_0 : PureOK Try.prog 13 [.int .i64 28, .int .i64 6, .int .i64 5, .int .i64 0, .int .u32 0] (.int .u32 164659) := word_of (by kernel_rfl)
theorem d_Add_6_5_0_0 : dec 164659 = (⟨28, 6, 5, 0, 0, 0, false, false⟩, true) := by kernel_rfl
theorem w_Lui_6_0_0_4096 : PureOK Try.prog 13 [.int .i64 1, .int .i64 6, .int .i64 0, .int .i64 0, .int .u32 4096] (.int .u32 4919) := word_of (by kernel_rfl)
theorem d_Lui_6_0_0_4096 : dec 4919 = (⟨1, 6, 0, 0, 0, 4096, false, false⟩, true) := by kernel_rfl
theorem w_Sw_0_6_0_0 : PureOK Try.prog 13 [.int .i64 18, .int .i64 0, .int .i64 6, .int .i64 0, .int .u32 0] (.int .u32 204835) := word_of (by kernel_rfl)
theorem d_Sw_0_6_0_0 : dec 204835 = (⟨18, 0, 6, 0, 0, 0, false, false⟩, true) := by kernel_rfl
theorem w_Sw_0_0_6_0 : PureOK Try.prog 13 [.int .i64 18, .int .i64 0, .int .i64 0, .int .i64 6, .int .u32 0] (.int .u32 6299683) := word_of (by kernel_rfl)
theorem d_Sw_0_0_6_0 : dec 6299683 = (⟨18, 0, 0, 6, 0, 0, false, false⟩, true) := by kernel_rfl
theorem w_Add_7_6_0_0 : PureOK Try.prog 13 [.int .i64 28, .int .i64 7, .int .i64 6, .int .i64 0, .int .u32 0] (.int .u32 197555) := word_of (by kernel_rfl)
theorem d_Add_7_6_0_0 : dec 197555 = (⟨28, 7, 6, 0, 0, 0, false, false⟩, true) := by kernel_rfl
theorem w_Lui_7_0_0_4096 : PureOK Try.prog 13 [.int .i64 1, .int .i64 7, .int .i64 0, .int .i64 0, .int .u32 4096] (.int .u32 5047) := word_of (by kernel_rfl)
theorem d_Lui_7_0_0_4096 : dec 5047 = (⟨1, 7, 0, 0, 0, 4096, false, false⟩, true) := by kernel_rfl
theorem w_Sw_0_7_0_0 : PureOK Try.prog 13 [.int .i64 18, .int .i64 0, .int .i64 7, .int .i64 0, .int .u32 0] (.int .u32 237603) := word_of (by kernel_rfl)
theorem d_Sw_0_7_0_0 : dec 237603 = (⟨18, 0, 7, 0, 0, 0, false, false⟩, true) := by kernel_rfl
theorem w_Sw_0_0_7_0 : PureOK Try.prog 13 [.int .i64 18, .int .i64 0, .int .i64 0, .int .i64 7, .int .u32 0] (.int .u32 7348259) := word_of (by kernel_rfl)
theorem d_Sw_0_0_7_0 : dec 7348259 = (⟨18, 0, 0, 7, 0, 0, false, false⟩, true) := by kernel_rfl
theorem w_Add_8_7_0_0 : PureOK Try.prog 13 [.int .i64 28, .int .i64 8, .int .i64 7, .int .i64 0, .int .u32 0] (.int .u32 230451) := word_of (by kernel_rfl)
theorem d_Add_8_7_0_0 : dec 230451 = (⟨28, 8, 7, 0, 0, 0, false, false⟩, true) := by kernel_rfl
theorem w_Lui_8_0_0_4096 : PureOK Try.prog 13 [.int .i64 1, .int .i64 8, .int .i64 0, .int .i64 0, .int .u32 4096] (.int .u32 5175) := word_of (by kernel_rfl)
theorem d_Lui_8_0_0_4096 : dec 5175 = (⟨1, 8, 0, 0, 0, 4096, false, false⟩, true) := by kernel_rfl
theorem w_Sw_0_8_0_0 : PureOK Try.prog 13 [.int .i64 18, .int .i64 0, .int .i64 8, .int .i64 0, .int .u32 0] (.int .u32 270371) := word_of (by kernel_rfl)
theorem d_Sw_0_8_0_0 : dec 270371 = (⟨18, 0, 8, 0, 0, 0, false, false⟩, true) := by kernel_rfl
theorem w_Sw_0_0_8_0 : PureOK Try.prog 13 [.int .i64 18, .int .i64 0, .int .i64 0, .int .i64 8, .int .u32 0] (.int .u32 8396835) := word_of (by kernel_rfl)
theorem d_Sw_0_0_8_0 : dec 8396835 = (⟨18, 0, 0, 8, 0, 0, false, false⟩, true) := by kernel_rfl
theorem w_Add_9_8_0_0 : PureOK Try.prog 13 [.int .i64 28, .int .i64 9, .int .i64 8, .int .i64 0, .int .u32 0] (.int .u32 263347) := word_of (by kernel_rfl)
theorem d_Add_9_8_0_0 : dec 263347 = (⟨28, 9, 8, 0, 0, 0, false, false⟩, true) := by kernel_rfl
theorem w_Lui_9_0_0_4096 : PureOK Try.prog 13 [.int .i64 1, .int .i64 9, .int .i64 0, .int .i64 0, .int .u32 4096] (.int .u32 5303) := word_of (by kernel_rfl)
theorem d_Lui_9_0_0_4096 : dec 5303 = (⟨1, 9, 0, 0, 0, 4096, false, false⟩, true) := by kernel_rfl
theorem w_Sw_0_9_0_0 : PureOK Try.prog 13 [.int .i64 18, .int .i64 0, .int .i64 9, .int .i64 0, .int .u32 0] (.int .u32 303139) := word_of (by kernel_rfl)
theorem d_Sw_0_9_0_0 : dec 303139 = (⟨18, 0, 9, 0, 0, 0, false, false⟩, true) := by kernel_rfl
theorem w_Sw_0_0_9_0 : PureOK Try.prog 13 [.int .i64 18, .int .i64 0, .int .i64 0, .int .i64 9, .int .u32 0] (.int .u32 9445411) := word_of (by kernel_rfl)
theorem d_Sw_0_0_9_0 : dec 9445411 = (⟨18, 0, 0, 9, 0, 0, false, false⟩, true) := by kernel_rfl
theorem w_Add_10_9_0_0 : PureOK Try.prog 13 [.int .i64 28, .int .i64 10, .int .i64 9, .int .i64 0, .int .u32 0] (.int .u32 296243) := word_of (by kernel_rfl)
theorem d_Add_10_9_0_0 : dec 296243 = (⟨28, 10, 9, 0, 0, 0, false, false⟩, true) := by kernel_rfl
theorem w_Lui_10_0_0_4096 : PureOK Try.prog 13 [.int .i64 1, .int .i64 10, .int .i64 0, .int .i64 0, .int .u32 4096] (.int .u32 5431) := word_of (by kernel_rfl)
theorem d_Lui_10_0_0_4096 : dec 5431 = (⟨1, 10, 0, 0, 0, 4096, false, false⟩, true) := by kernel_rfl
theorem w_Sw_0_10_0_0 : PureOK Try.prog 13 [.int .i64 18, .int .i64 0, .int .i64 10, .int .i64 0, .int .u32 0] (.int .u32 335907) := word_of (by kernel_rfl)
theorem d_Sw_0_10_0_0 : dec 335907 = (⟨18, 0, 10, 0, 0, 0, false, false⟩, true) := by kernel_rfl
theorem w_Sw_0_0_10_0 : PureOK Try.prog 13 [.int .i64 18, .int .i64 0, .int .i64 0, .int .i64 10, .int .u32 0] (.int .u32 10493987) := word_of (by kernel_rfl)
theorem d_Sw_0_0_10_0 : dec 10493987 = (⟨18, 0, 0, 10, 0, 0, false, false⟩, true) := by kernel_rfl
theorem w_Add_11_10_0_0 : PureOK Try.prog 13 [.int .i64 28, .int .i64 11, .int .i64 10, .int .i64 0, .int .u32 0] (.int .u32 329139) := word_of (by kernel_rfl)
theorem d_Add_11_10_0_0 : dec 329139 = (⟨28, 11, 10, 0, 0, 0, false, false⟩, true) := by kernel_rfl
theorem w_Lui_11_0_0_4096 : PureOK Try.prog 13 [.int .i64 1, .int .i64 11, .int .i64 0, .int .i64 0, .int .u32 4096] (.int .u32 5559) := word_of (by kernel_rfl)
theorem d_Lui_11_0_0_4096 : dec 5559 = (⟨1, 11, 0, 0, 0, 4096, false, false⟩, true) := by kernel_rfl
theorem w_Sw_0_11_0_0 : PureOK Try.prog 13 [.int .i64 18, .int .i64 0, .int .i64 11, .int .i64 0, .int .u32 0] (.int .u32 368675) := word_of (by kernel_rfl)
theorem d_Sw_0_11_0_0 : dec 368675 = (⟨18, 0, 11, 0, 0, 0, false, false⟩, true) := by kernel_rfl
theorem w_Sw_0_0_11_0 : PureOK Try.prog 13 [.int .i64 18, .int .i64 0, .int .i64 0, .int .i64 11, .int .u32 0] (.int .u32 11542563) := word_of (by kernel_rfl)
theorem d_Sw_0_0_11_0 : dec 11542563 = (⟨18, 0, 0, 11, 0, 0, false, false⟩, true) := by kernel_rfl
theorem w_Add_12_11_0_0 : PureOK Try.prog 13 [.int .i64 28, .int .i64 12, .int .i64 11, .int .i64 0, .int .u32 0] (.int .u32 362035) := word_of (by kernel_rfl)
theorem d_Add_12_11_0_0 : dec 362035 = (⟨28, 12, 11, 0, 0, 0, false, false⟩, true) := by kernel_rfl
theorem w_Lui_12_0_0_4096 : PureOK Try.prog 13 [.int .i64 1, .int .i64 12, .int .i64 0, .int .i64 0, .int .u32 4096] (.int .u32 5687) := word_of (by kernel_rfl)
theorem d_Lui_12_0_0_4096 : dec 5687 = (⟨1, 12, 0, 0, 0, 4096, false, false⟩, true) := by kernel_rfl
theorem w_Sw_0_12_0_0 : PureOK Try.prog 13 [.int .i64 18, .int .i64 0, .int .i64 12, .int .i64 0, .int .u32 0] (.int .u32 401443) := word_of (by kernel_rfl)
theorem d_Sw_0_12_0_0 : dec 401443 = (⟨18, 0, 12, 0, 0, 0, false, false⟩, true) := by kernel_rfl
theorem w_Sw_0_0_12_0 : PureOK Try.prog 13 [.int .i64 18, .int .i64 0, .int .i64 0, .int .i64 12, .int .u32 0] (.int .u32 12591139) := word_of (by kernel_rfl)
theorem d_Sw_0_0_12_0 : dec 12591139 = (⟨18, 0, 0, 12, 0, 0, false, false⟩, true) := by kernel_rfl
theorem w_Add_13_12_0_0 : PureOK Try.prog 13 [.int .i64 28, .int .i64 13, .int .i64 12, .int .i64 0, .int .u32 0] (.int .u32 394931) := word_of (by kernel_rfl)
theorem d_Add_13_12_0_0 : dec 394931 = (⟨28, 13, 12, 0, 0, 0, false, false⟩, true) := by kernel_rfl
theorem w_Lui_13_0_0_4096 : PureOK Try.prog 13 [.int .i64 1, .int .i64 13, .int .i64 0, .int .i64 0, .int .u32 4096] (.int .u32 5815) := word_of (by kernel_rfl)
theorem d_Lui_13_0_0_4096 : dec 5815 = (⟨1, 13, 0, 0, 0, 4096, false, false⟩, true) := by kernel_rfl
theorem w_Sw_0_13_0_0 : PureOK Try.prog 13 [.int .i64 18, .int .i64 0, .int .i64 13, .int .i64 0, .int .u32 0] (.int .u32 434211) := word_of (by kernel_rfl)
theorem d_Sw_0_13_0_0 : dec 434211 = (⟨18, 0, 13, 0, 0, 0, false, false⟩, true) := by kernel_rfl
theorem w_Sw_0_0_13_0 : PureOK Try.prog 13 [.int .i64 18, .int .i64 0, .int .i64 0, .int .i64 13, .int .u32 0] (.int .u32 13639715) := word_of (by kernel_rfl)
theorem d_Sw_0_0_13_0 : dec 13639715 = (⟨18, 0, 0, 13, 0, 0, false, false⟩, true) := by kernel_rfl
theorem w_Add_14_13_0_0 : PureOK Try.prog 13 [.int .i64 28, .int .i64 14, .int .i64 13, .int .i64 0, .int .u32 0] (.int .u32 427827) := word_of (by kernel_rfl)
theorem d_Add_14_13_0_0 : dec 427827 = (⟨28, 14, 13, 0, 0, 0, false, false⟩, true) := by kernel_rfl
theorem w_Lui_14_0_0_4096 : PureOK Try.prog 13 [.int .i64 1, .int .i64 14, .int .i64 0, .int .i64 0, .int .u32 4096] (.int .u32 5943) := word_of (by kernel_rfl)
theorem d_Lui_14_0_0_4096 : dec 5943 = (⟨1, 14, 0, 0, 0, 4096, false, false⟩, true) := by kernel_rfl
theorem w_Sw_0_14_0_0 : PureOK Try.prog 13 [.int .i64 18, .int .i64 0, .int .i64 14, .int .i64 0, .int .u32 0] (.int .u32 466979) := word_of (by kernel_rfl)
theorem d_Sw_0_14_0_0 : dec 466979 = (⟨18, 0, 14, 0, 0, 0, false, false⟩, true) := by kernel_rfl
theorem w_Sw_0_0_14_0 : PureOK Try.prog 13 [.int .i64 18, .int .i64 0, .int .i64 0, .int .i64 14, .int .u32 0] (.int .u32 14688291) := word_of (by kernel_rfl)
theorem d_Sw_0_0_14_0 : dec 14688291 = (⟨18, 0, 0, 14, 0, 0, false, false⟩, true) := by kernel_rfl
theorem w_Add_15_14_0_0 : PureOK Try.prog 13 [.int .i64 28, .int .i64 15, .int .i64 14, .int .i64 0, .int .u32 0] (.int .u32 460723) := word_of (by kernel_rfl)
theorem d_Add_15_14_0_0 : dec 460723 = (⟨28, 15, 14, 0, 0, 0, false, false⟩, true) := by kernel_rfl
theorem w_Lui_15_0_0_4096 : PureOK Try.prog 13 [.int .i64 1, .int .i64 15, .int .i64 0, .int .i64 0, .int .u32 4096] (.int .u32 6071) := word_of (by kernel_rfl)
theorem d_Lui_15_0_0_4096 : dec 6071 = (⟨1, 15, 0, 0, 0, 4096, false, false⟩, true) := by kernel_rfl
theorem w_Sw_0_15_0_0 : PureOK Try.prog 13 [.int .i64 18, .int .i64 0, .int .i64 15, .int .i64 0, .int .u32 0] (.int .u32 499747) := word_of (by kernel_rfl)
theorem d_Sw_0_15_0_0 : dec 499747 = (⟨18, 0, 15, 0, 0, 0, false, false⟩, true) := by kernel_rfl
theorem w_Sw_0_0_15_0 : PureOK Try.prog 13 [.int .i64 18, .int .i64 0, .int .i64 0, .int .i64 15, .int .u32 0] (.int .u32 15736867) := word_of (by kernel_rfl)
theorem d_Sw_0_0_15_0 : dec 15736867 = (⟨18, 0, 0, 15, 0, 0, false, false⟩, true) := by kernel_rfl
theorem w_Add_16_15_0_0 : PureOK Try.prog 13 [.int .i64 28, .int .i64 16, .int .i64 15, .int .i64 0, .int .u32 0] (.int .u32 493619) := word_of (by kernel_rfl)
theorem d_Add_16_15_0_0 : dec 493619 = (⟨28, 16, 15, 0, 0, 0, false, false⟩, true) := by kernel_rfl
theorem w_Lui_16_0_0_4096 : PureOK Try.prog 13 [.int .i64 1, .int .i64 16, .int .i64 0, .int .i64 0, .int .u32 4096] (.int .u32 6199) := word_of (by kernel_rfl)
theorem d_Lui_16_0_0_4096 : dec 6199 = (⟨1, 16, 0, 0, 0, 4096, false, false⟩, true) := by kernel_rfl
theorem w_Sw_0_16_0_0 : PureOK Try.prog 13 [.int .i64 18, .int .i64 0, .int .i64 16, .int .i64 0, .int .u32 0] (.int .u32 532515) := word_of (by kernel_rfl)
theorem d_Sw_0_16_0_0 : dec 532515 = (⟨18, 0, 16, 0, 0, 0, false, false⟩, true) := by kernel_rfl
theorem w_Sw_0_0_16_0 : PureOK Try.prog 13 [.int .i64 18, .int .i64 0, .int .i64 0, .int .i64 16, .int .u32 0] (.int .u32 16785443) := word_of (by kernel_rfl)
theorem d_Sw_0_0_16_0 : dec 16785443 = (⟨18, 0, 0, 16, 0, 0, false, false⟩, true) := by kernel_rfl
theorem w_Add_17_16_0_0 : PureOK Try.prog 13 [.int .i64 28, .int .i64 17, .int .i64 16, .int .i64 0, .int .u32 0] (.int .u32 526515) := word_of (by kernel_rfl)
theorem d_Add_17_16_0_0 : dec 526515 = (⟨28, 17, 16, 0, 0, 0, false, false⟩, true) := by kernel_rfl
theorem w_Lui_17_0_0_4096 : PureOK Try.prog 13 [.int .i64 1, .int .i64 17, .int .i64 0, .int .i64 0, .int .u32 4096] (.int .u32 6327) := word_of (by kernel_rfl)
theorem d_Lui_17_0_0_4096 : dec 6327 = (⟨1, 17, 0, 0, 0, 4096, false, false⟩, true) := by kernel_rfl
theorem w_Sw_0_17_0_0 : PureOK Try.prog 13 [.int .i64 18, .int .i64 0, .int .i64 17, .int .i64 0, .int .u32 0] (.int .u32 565283) := word_of (by kernel_rfl)
theorem d_Sw_0_17_0_0 : dec 565283 = (⟨18, 0, 17, 0, 0, 0, false, false⟩, true) := by kernel_rfl
theorem w_Sw_0_0_17_0 : PureOK Try.prog 13 [.int .i64 18, .int .i64 0, .int .i64 0, .int .i64 17, .int .u32 0] (.int .u32 17834019) := word_of (by kernel_rfl)
theorem d_Sw_0_0_17_0 : dec 17834019 = (⟨18, 0, 0, 17, 0, 0, false, false⟩, true) := by kernel_rfl
theorem w_Add_18_17_0_0 : PureOK Try.prog 13 [.int .i64 28, .int .i64 18, .int .i64 17, .int .i64 0, .int .u32 0] (.int .u32 559411) := word_of (by kernel_rfl)
theorem d_Add_18_17_0_0 : dec 559411 = (⟨28, 18, 17, 0, 0, 0, false, false⟩, true) := by kernel_rfl
theorem w_Lui_18_0_0_4096 : PureOK Try.prog 13 [.int .i64 1, .int .i64 18, .int .i64 0, .int .i64 0, .int .u32 4096] (.int .u32 6455) := word_of (by kernel_rfl)
theorem d_Lui_18_0_0_4096 : dec 6455 = (⟨1, 18, 0, 0, 0, 4096, false, false⟩, true) := by kernel_rfl
theorem w_Sw_0_18_0_0 : PureOK Try.prog 13 [.int .i64 18, .int .i64 0, .int .i64 18, .int .i64 0, .int .u32 0] (.int .u32 598051) := word_of (by kernel_rfl)
theorem d_Sw_0_18_0_0 : dec 598051 = (⟨18, 0, 18, 0, 0, 0, false, false⟩, true) := by kernel_rfl
theorem w_Sw_0_0_18_0 : PureOK Try.prog 13 [.int .i64 18, .int .i64 0, .int .i64 0, .int .i64 18, .int .u32 0] (.int .u32 18882595) := word_of (by kernel_rfl)
theorem d_Sw_0_0_18_0 : dec 18882595 = (⟨18, 0, 0, 18, 0, 0, false, false⟩, true) := by kernel_rfl
theorem w_Add_19_18_0_0 : PureOK Try.prog 13 [.int .i64 28, .int .i64 19, .int .i64 18, .int .i64 0, .int .u32 0] (.int .u32 592307) := word_of (by kernel_rfl)
theorem d_Add_19_18_0_0 : dec 592307 = (⟨28, 19, 18, 0, 0, 0, false, false⟩, true) := by kernel_rfl
theorem w_Lui_19_0_0_4096 : PureOK Try.prog 13 [.int .i64 1, .int .i64 19, .int .i64 0, .int .i64 0, .int .u32 4096] (.int .u32 6583) := word_of (by kernel_rfl)
theorem d_Lui_19_0_0_4096 : dec 6583 = (⟨1, 19, 0, 0, 0, 4096, false, false⟩, true) := by kernel_rfl
theorem w_Sw_0_19_0_0 : PureOK Try.prog 13 [.int .i64 18, .int .i64 0, .int .i64 19, .int .i64 0, .int .u32 0] (.int .u32 630819) := word_of (by kernel_rfl)
theorem d_Sw_0_19_0_0 : dec 630819 = (⟨18, 0, 19, 0, 0, 0, false, false⟩, true) := by kernel_rfl
theorem w_Sw_0_0_19_0 : PureOK Try.prog 13 [.int .i64 18, .int .i64 0, .int .i64 0, .int .i64 19, .int .u32 0] (.int .u32 19931171) := word_of (by kernel_rfl)
theorem d_Sw_0_0_19_0 : dec 19931171 = (⟨18, 0, 0, 19, 0, 0, false, false⟩, true) := by kernel_rfl
theorem w_Add_20_19_0_0 : PureOK Try.prog 13 [.int .i64 28, .int .i64 20, .int .i64 19, .int .i64 0, .int .u32 0] (.int .u32 625203) := word_of (by kernel_rfl)
theorem d_Add_20_19_0_0 : dec 625203 = (⟨28, 20, 19, 0, 0, 0, false, false⟩, true) := by kernel_rfl
theorem w_Lui_20_0_0_4096 : PureOK Try.prog 13 [.int .i64 1, .int .i64 20, .int .i64 0, .int .i64 0, .int .u32 4096] (.int .u32 6711) := word_of (by kernel_rfl)
theorem d_Lui_20_0_0_4096 : dec 6711 = (⟨1, 20, 0, 0, 0, 4096, false, false⟩, true) := by kernel_rfl
theorem w_Sw_0_20_0_0 : PureOK Try.prog 13 [.int .i64 18, .int .i64 0, .int .i64 20, .int .i64 0, .int .u32 0] (.int .u32 663587) := word_of (by kernel_rfl)
theorem d_Sw_0_20_0_0 : dec 663587 = (⟨18, 0, 20, 0, 0, 0, false, false⟩, true) := by kernel_rfl
theorem w_Sw_0_0_20_0 : PureOK Try.prog 13 [.int .i64 18, .int .i64 0, .int .i64 0, .int .i64 20, .int .u32 0] (.int .u32 20979747) := word_of (by kernel_rfl)
theorem d_Sw_0_0_20_0 : dec 20979747 = (⟨18, 0, 0, 20, 0, 0, false, false⟩, true) := by kernel_rfl
theorem w_Add_21_20_0_0 : PureOK Try.prog 13 [.int .i64 28, .int .i64 21, .int .i64 20, .int .i64 0, .int .u32 0] (.int .u32 658099) := word_of (by kernel_rfl)
theorem d_Add_21_20_0_0 : dec 658099 = (⟨28, 21, 20, 0, 0, 0, false, false⟩, true) := by kernel_rfl
theorem w_Lui_21_0_0_4096 : PureOK Try.prog 13 [.int .i64 1, .int .i64 21, .int .i64 0, .int .i64 0, .int .u32 4096] (.int .u32 6839) := word_of (by kernel_rfl)
theorem d_Lui_21_0_0_4096 : dec 6839 = (⟨1, 21, 0, 0, 0, 4096, false, false⟩, true) := by kernel_rfl
theorem w_Sw_0_21_0_0 : PureOK Try.prog 13 [.int .i64 18, .int .i64 0, .int .i64 21, .int .i64 0, .int .u32 0] (.int .u32 696355) := word_of (by kernel_rfl)
theorem d_Sw_0_21_0_0 : dec 696355 = (⟨18, 0, 21, 0, 0, 0, false, false⟩, true) := by kernel_rfl
theorem w_Sw_0_0_21_0 : PureOK Try.prog 13 [.int .i64 18, .int .i64 0, .int .i64 0, .int .i64 21, .int .u32 0] (.int .u32 22028323) := word_of (by kernel_rfl)
theorem d_Sw_0_0_21_0 : dec 22028323 = (⟨18, 0, 0, 21, 0, 0, false, false⟩, true) := by kernel_rfl
end Go.Proofs.Ytbcikaoklpekhaa.Ab
