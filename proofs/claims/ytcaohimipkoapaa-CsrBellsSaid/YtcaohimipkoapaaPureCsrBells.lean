/- Sixteen ways, each told through. -/
import Derived.Test.YtcaohimipkoapaaQCsrBellsx3
import Derived.Test.YtcaohimipkoapaaBv
set_option linter.unusedSimpArgs false
set_option linter.unusedVariables false
namespace Go.Proofs.Ytcaohimipkoapaa.Pure
open Go.RowKit Go.Proofs.Ytcaohimipkoapaa.QCsrBells Go.Proofs.YtcaohimipkoapaaW.PrintWords Go.Proofs.YtcaohimipkoapaaW.PrintLast Go.Proofs.YtcaohimipkoapaaW.PrintMore Go.Proofs.Ytcaohimipkoapaa.Bv
namespace CsrBellsP
theorem main : ∀ a b c d : Bool, corrallaw6_CsrBells.f 6 a b c d = some true := by decide +kernel
end CsrBellsP
theorem CsrBells : corrallaw6_CsrBells.Pure := by
  intro a0 a1 a2 a3
  exact ⟨6, CsrBellsP.main a0 a1 a2 a3⟩

end Go.Proofs.Ytcaohimipkoapaa.Pure
