/- LoneWaits: the law's run, in its eight ways, whatever the data. -/
import Derived.Test.YtecmjcfhbedelaaAbC
namespace Go.Proofs.Ytecmjcfhbedelaa.Ab
open Go Go.RowKit
set_option linter.unusedVariables false
def ways (x0 x1 x2 x3 : Int) : Option Value := bif eqInts [.int .u32 x0, .int .u32 x1, .int .u32 x2, .int .u32 x3] [.int .u32 x0, .int .u32 x1, .int .u32 x2, .int .u32 x3] then some (.bool true) else some (.bool false)
theorem ways_true (x0 x1 x2 x3 : Int) : ways x0 x1 x2 x3 = some (.bool true) := by simp [ways, eqInts]
theorem way_fff (x0 x1 x2 x3 : Int) : callK (ctx noΦ) 30 0 8 [.bool false, .bool false, .bool false, .agg #[.int .u32 x0, .int .u32 x1, .int .u32 x2, .int .u32 x3]] [] (fun v _ => some v) = ways x0 x1 x2 x3 := by kernel_rfl
theorem way_fft (x0 x1 x2 x3 : Int) : callK (ctx noΦ) 30 0 8 [.bool false, .bool false, .bool true, .agg #[.int .u32 x0, .int .u32 x1, .int .u32 x2, .int .u32 x3]] [] (fun v _ => some v) = ways x0 x1 x2 x3 := by kernel_rfl
theorem way_ftf (x0 x1 x2 x3 : Int) : callK (ctx noΦ) 30 0 8 [.bool false, .bool true, .bool false, .agg #[.int .u32 x0, .int .u32 x1, .int .u32 x2, .int .u32 x3]] [] (fun v _ => some v) = ways x0 x1 x2 x3 := by kernel_rfl
theorem way_ftt (x0 x1 x2 x3 : Int) : callK (ctx noΦ) 30 0 8 [.bool false, .bool true, .bool true, .agg #[.int .u32 x0, .int .u32 x1, .int .u32 x2, .int .u32 x3]] [] (fun v _ => some v) = ways x0 x1 x2 x3 := by kernel_rfl
theorem way_tff (x0 x1 x2 x3 : Int) : callK (ctx noΦ) 30 0 8 [.bool true, .bool false, .bool false, .agg #[.int .u32 x0, .int .u32 x1, .int .u32 x2, .int .u32 x3]] [] (fun v _ => some v) = ways x0 x1 x2 x3 := by kernel_rfl
theorem way_tft (x0 x1 x2 x3 : Int) : callK (ctx noΦ) 30 0 8 [.bool true, .bool false, .bool true, .agg #[.int .u32 x0, .int .u32 x1, .int .u32 x2, .int .u32 x3]] [] (fun v _ => some v) = ways x0 x1 x2 x3 := by kernel_rfl
theorem way_ttf (x0 x1 x2 x3 : Int) : callK (ctx noΦ) 30 0 8 [.bool true, .bool true, .bool false, .agg #[.int .u32 x0, .int .u32 x1, .int .u32 x2, .int .u32 x3]] [] (fun v _ => some v) = ways x0 x1 x2 x3 := by kernel_rfl
theorem way_ttt (x0 x1 x2 x3 : Int) : callK (ctx noΦ) 30 0 8 [.bool true, .bool true, .bool true, .agg #[.int .u32 x0, .int .u32 x1, .int .u32 x2, .int .u32 x3]] [] (fun v _ => some v) = ways x0 x1 x2 x3 := by kernel_rfl
theorem loneWaits_run (a b c : Bool) (x0 x1 x2 x3 : Int) (w : World) :
    Calls Try.prog 8 #[.bool a, .bool b, .bool c, .agg #[.int .u32 x0, .int .u32 x1, .int .u32 x2, .int .u32 x3]] w fun e w' => e = .returned (.bool true) ∧ Below w.heap.size w w' := by
  have hp : ∀ a b c, ([.bool a, .bool b, .bool c, .agg #[.int .u32 x0, .int .u32 x1, .int .u32 x2, .int .u32 x3]] : List Value).all plain = true := fun a b c => rfl
  cases a <;> cases b <;> cases c
  · exact calls_of_run noOK (hp _ _ _) rfl ((way_fff x0 x1 x2 x3).trans (ways_true x0 x1 x2 x3)) w
  · exact calls_of_run noOK (hp _ _ _) rfl ((way_fft x0 x1 x2 x3).trans (ways_true x0 x1 x2 x3)) w
  · exact calls_of_run noOK (hp _ _ _) rfl ((way_ftf x0 x1 x2 x3).trans (ways_true x0 x1 x2 x3)) w
  · exact calls_of_run noOK (hp _ _ _) rfl ((way_ftt x0 x1 x2 x3).trans (ways_true x0 x1 x2 x3)) w
  · exact calls_of_run noOK (hp _ _ _) rfl ((way_tff x0 x1 x2 x3).trans (ways_true x0 x1 x2 x3)) w
  · exact calls_of_run noOK (hp _ _ _) rfl ((way_tft x0 x1 x2 x3).trans (ways_true x0 x1 x2 x3)) w
  · exact calls_of_run noOK (hp _ _ _) rfl ((way_ttf x0 x1 x2 x3).trans (ways_true x0 x1 x2 x3)) w
  · exact calls_of_run noOK (hp _ _ _) rfl ((way_ttt x0 x1 x2 x3).trans (ways_true x0 x1 x2 x3)) w
end Go.Proofs.Ytecmjcfhbedelaa.Ab
