/-
  No cell of these rows narrows 'for every input' (looked for: loops, veiled, ifaces, maps, wideKeys, modest, calm, conditions, laid).
  DERIVED. THE GIVEN ROWS OF THIS SEAT. 10 by the template 'for every input the law returns true; each argument reads behind the call as it read before'; 0 by the template 'total and deterministic' (their statements: YtcaohimipkoapaaTotals.lean).
  GIVEN WITH THE SEED: the statements are not yours to turn. If you find one false, say at which input.
  Laid BY PROGRAM, IN A SANDBOX (cutbox-rows.mjs): the forced cells as the released guide's own fill.sh prints them over the translation 19a351861781a979… (all of the seat's roots in one cut). By AI agents, Wed Nov 11 2026. No macro, syntax, notation, axiom, sorry.
-/
import Derived.Test.YtcaohimipkoapaaChecked
import GoSem.Claim
import GoSem.ClaimJoined
import GoSem.ClaimMapViews
import Derived.JoinedTies
import Derived.KernelRfl
namespace Go.Proofs.Ytcaohimipkoapaa
/- THE CELL 'sum', in the pinned program and in every row, IS THE sha256 OF THE DUMP (.gsa) THAT YtcaohimipkoapaaProg.lean LOADS. Nothing in Lean hashes anything: it is a label: what it is worth is what the hold of that sum in a sandbox is worth. -/
noncomputable def Try.pinned : Pinned := { name := "ytcaohimipkoapaa", sum := "19a351861781a9796f707fb0444bf2df18600fbd6a25608bfbddf7c086afe1f3", checked := Try.checked }
namespace Rows
def none {H : Type} : Left H := { results := [], args := [] }

/-- 'corrallaw2.EncBack': WHATEVER THE INPUT: true; the input reads as it did. -/
def encBackSpec : ChangeSpec := { name := "encBack", fn := fun _ => fun
  | [d] => { results := [.lit (.bool true)], args := [d] }
  | _ => none }
def encBackRow : OpenClaim := { program := "ytcaohimipkoapaa", sum := "19a351861781a9796f707fb0444bf2df18600fbd6a25608bfbddf7c086afe1f3", func := "corral/corrallaw2.EncBack", spec := "encBack", apart := false }
def EncBackSaid : Prop := encBackRow.holds Try.pinned (OpenSpec.ofChange encBackSpec)

/-- ITS FALSE NEIGHBOUR: 'it returns false'. Refute it at one input. -/
def encBackWrong : ChangeSpec := { name := "encBack", fn := fun _ => fun
  | [d] => { results := [.lit (.bool false)], args := [d] }
  | _ => none }
def EncBackWrongFalsely : Prop := encBackRow.holds Try.pinned (OpenSpec.ofChange encBackWrong)

/-- 'corrallaw2.EncEach': WHATEVER THE INPUT: true; the input reads as it did. -/
def encEachSpec : ChangeSpec := { name := "encEach", fn := fun _ => fun
  | [d1, d2] => { results := [.lit (.bool true)], args := [d1, d2] }
  | _ => none }
def encEachRow : OpenClaim := { program := "ytcaohimipkoapaa", sum := "19a351861781a9796f707fb0444bf2df18600fbd6a25608bfbddf7c086afe1f3", func := "corral/corrallaw2.EncEach", spec := "encEach", apart := false }
def EncEachSaid : Prop := encEachRow.holds Try.pinned (OpenSpec.ofChange encEachSpec)

/-- ITS FALSE NEIGHBOUR: 'it returns false'. Refute it at one input. -/
def encEachWrong : ChangeSpec := { name := "encEach", fn := fun _ => fun
  | [d1, d2] => { results := [.lit (.bool false)], args := [d1, d2] }
  | _ => none }
def EncEachWrongFalsely : Prop := encEachRow.holds Try.pinned (OpenSpec.ofChange encEachWrong)

/-- 'corrallaw2.EncSays': WHATEVER THE INPUT: true; the input reads as it did. -/
def encSaysSpec : ChangeSpec := { name := "encSays", fn := fun _ => fun
  | [d1, d2, d3] => { results := [.lit (.bool true)], args := [d1, d2, d3] }
  | _ => none }
def encSaysRow : OpenClaim := { program := "ytcaohimipkoapaa", sum := "19a351861781a9796f707fb0444bf2df18600fbd6a25608bfbddf7c086afe1f3", func := "corral/corrallaw2.EncSays", spec := "encSays", apart := false }
def EncSaysSaid : Prop := encSaysRow.holds Try.pinned (OpenSpec.ofChange encSaysSpec)

/-- ITS FALSE NEIGHBOUR: 'it returns false'. Refute it at one input. -/
def encSaysWrong : ChangeSpec := { name := "encSays", fn := fun _ => fun
  | [d1, d2, d3] => { results := [.lit (.bool false)], args := [d1, d2, d3] }
  | _ => none }
def EncSaysWrongFalsely : Prop := encSaysRow.holds Try.pinned (OpenSpec.ofChange encSaysWrong)

/-- 'corrallaw2.EncJoins': WHATEVER THE INPUT: true; the input reads as it did. -/
def encJoinsSpec : ChangeSpec := { name := "encJoins", fn := fun _ => fun
  | [d1, d2, d3, d4, d5, d6] => { results := [.lit (.bool true)], args := [d1, d2, d3, d4, d5, d6] }
  | _ => none }
def encJoinsRow : OpenClaim := { program := "ytcaohimipkoapaa", sum := "19a351861781a9796f707fb0444bf2df18600fbd6a25608bfbddf7c086afe1f3", func := "corral/corrallaw2.EncJoins", spec := "encJoins", apart := false }
def EncJoinsSaid : Prop := encJoinsRow.holds Try.pinned (OpenSpec.ofChange encJoinsSpec)

/-- ITS FALSE NEIGHBOUR: 'it returns false'. Refute it at one input. -/
def encJoinsWrong : ChangeSpec := { name := "encJoins", fn := fun _ => fun
  | [d1, d2, d3, d4, d5, d6] => { results := [.lit (.bool false)], args := [d1, d2, d3, d4, d5, d6] }
  | _ => none }
def EncJoinsWrongFalsely : Prop := encJoinsRow.holds Try.pinned (OpenSpec.ofChange encJoinsWrong)

/-- 'corrallaw6.CsrMasks': WHATEVER THE INPUT: true; the input reads as it did. -/
def csrMasksSpec : ChangeSpec := { name := "csrMasks", fn := fun _ => fun
  | [d1, d2] => { results := [.lit (.bool true)], args := [d1, d2] }
  | _ => none }
def csrMasksRow : OpenClaim := { program := "ytcaohimipkoapaa", sum := "19a351861781a9796f707fb0444bf2df18600fbd6a25608bfbddf7c086afe1f3", func := "corral/corrallaw6.CsrMasks", spec := "csrMasks", apart := false }
def CsrMasksSaid : Prop := csrMasksRow.holds Try.pinned (OpenSpec.ofChange csrMasksSpec)

/-- ITS FALSE NEIGHBOUR: 'it returns false'. Refute it at one input. -/
def csrMasksWrong : ChangeSpec := { name := "csrMasks", fn := fun _ => fun
  | [d1, d2] => { results := [.lit (.bool false)], args := [d1, d2] }
  | _ => none }
def CsrMasksWrongFalsely : Prop := csrMasksRow.holds Try.pinned (OpenSpec.ofChange csrMasksWrong)

/-- 'corrallaw6.CsrUser': WHATEVER THE INPUT: true; the input reads as it did. -/
def csrUserSpec : ChangeSpec := { name := "csrUser", fn := fun _ => fun
  | [d1, d2] => { results := [.lit (.bool true)], args := [d1, d2] }
  | _ => none }
def csrUserRow : OpenClaim := { program := "ytcaohimipkoapaa", sum := "19a351861781a9796f707fb0444bf2df18600fbd6a25608bfbddf7c086afe1f3", func := "corral/corrallaw6.CsrUser", spec := "csrUser", apart := false }
def CsrUserSaid : Prop := csrUserRow.holds Try.pinned (OpenSpec.ofChange csrUserSpec)

/-- ITS FALSE NEIGHBOUR: 'it returns false'. Refute it at one input. -/
def csrUserWrong : ChangeSpec := { name := "csrUser", fn := fun _ => fun
  | [d1, d2] => { results := [.lit (.bool false)], args := [d1, d2] }
  | _ => none }
def CsrUserWrongFalsely : Prop := csrUserRow.holds Try.pinned (OpenSpec.ofChange csrUserWrong)

/-- 'corrallaw6.CsrNests': WHATEVER THE INPUT: true; the input reads as it did. -/
def csrNestsSpec : ChangeSpec := { name := "csrNests", fn := fun _ => fun
  | [d1, d2, d3] => { results := [.lit (.bool true)], args := [d1, d2, d3] }
  | _ => none }
def csrNestsRow : OpenClaim := { program := "ytcaohimipkoapaa", sum := "19a351861781a9796f707fb0444bf2df18600fbd6a25608bfbddf7c086afe1f3", func := "corral/corrallaw6.CsrNests", spec := "csrNests", apart := false }
def CsrNestsSaid : Prop := csrNestsRow.holds Try.pinned (OpenSpec.ofChange csrNestsSpec)

/-- ITS FALSE NEIGHBOUR: 'it returns false'. Refute it at one input. -/
def csrNestsWrong : ChangeSpec := { name := "csrNests", fn := fun _ => fun
  | [d1, d2, d3] => { results := [.lit (.bool false)], args := [d1, d2, d3] }
  | _ => none }
def CsrNestsWrongFalsely : Prop := csrNestsRow.holds Try.pinned (OpenSpec.ofChange csrNestsWrong)

/-- 'corrallaw6.CsrReturns': WHATEVER THE INPUT: true; the input reads as it did. -/
def csrReturnsSpec : ChangeSpec := { name := "csrReturns", fn := fun _ => fun
  | [d1, d2, d3, d4, d5] => { results := [.lit (.bool true)], args := [d1, d2, d3, d4, d5] }
  | _ => none }
def csrReturnsRow : OpenClaim := { program := "ytcaohimipkoapaa", sum := "19a351861781a9796f707fb0444bf2df18600fbd6a25608bfbddf7c086afe1f3", func := "corral/corrallaw6.CsrReturns", spec := "csrReturns", apart := false }
def CsrReturnsSaid : Prop := csrReturnsRow.holds Try.pinned (OpenSpec.ofChange csrReturnsSpec)

/-- ITS FALSE NEIGHBOUR: 'it returns false'. Refute it at one input. -/
def csrReturnsWrong : ChangeSpec := { name := "csrReturns", fn := fun _ => fun
  | [d1, d2, d3, d4, d5] => { results := [.lit (.bool false)], args := [d1, d2, d3, d4, d5] }
  | _ => none }
def CsrReturnsWrongFalsely : Prop := csrReturnsRow.holds Try.pinned (OpenSpec.ofChange csrReturnsWrong)

/-- 'corrallaw6.CsrBells': WHATEVER THE INPUT: true; the input reads as it did. -/
def csrBellsSpec : ChangeSpec := { name := "csrBells", fn := fun _ => fun
  | [d1, d2, d3, d4] => { results := [.lit (.bool true)], args := [d1, d2, d3, d4] }
  | _ => none }
def csrBellsRow : OpenClaim := { program := "ytcaohimipkoapaa", sum := "19a351861781a9796f707fb0444bf2df18600fbd6a25608bfbddf7c086afe1f3", func := "corral/corrallaw6.CsrBells", spec := "csrBells", apart := false }
def CsrBellsSaid : Prop := csrBellsRow.holds Try.pinned (OpenSpec.ofChange csrBellsSpec)

/-- ITS FALSE NEIGHBOUR: 'it returns false'. Refute it at one input. -/
def csrBellsWrong : ChangeSpec := { name := "csrBells", fn := fun _ => fun
  | [d1, d2, d3, d4] => { results := [.lit (.bool false)], args := [d1, d2, d3, d4] }
  | _ => none }
def CsrBellsWrongFalsely : Prop := csrBellsRow.holds Try.pinned (OpenSpec.ofChange csrBellsWrong)

/-- 'corrallaw6.CsrPlays': WHATEVER THE INPUT: true; the input reads as it did. -/
def csrPlaysSpec : ChangeSpec := { name := "csrPlays", fn := fun _ => fun
  | [d1, d2] => { results := [.lit (.bool true)], args := [d1, d2] }
  | _ => none }
def csrPlaysRow : OpenClaim := { program := "ytcaohimipkoapaa", sum := "19a351861781a9796f707fb0444bf2df18600fbd6a25608bfbddf7c086afe1f3", func := "corral/corrallaw6.CsrPlays", spec := "csrPlays", apart := false }
def CsrPlaysSaid : Prop := csrPlaysRow.holds Try.pinned (OpenSpec.ofChange csrPlaysSpec)

/-- ITS FALSE NEIGHBOUR: 'it returns false'. Refute it at one input. -/
def csrPlaysWrong : ChangeSpec := { name := "csrPlays", fn := fun _ => fun
  | [d1, d2] => { results := [.lit (.bool false)], args := [d1, d2] }
  | _ => none }
def CsrPlaysWrongFalsely : Prop := csrPlaysRow.holds Try.pinned (OpenSpec.ofChange csrPlaysWrong)

/- THE SECOND FORM. 'bulk': how many values and letters a reading holds, each counted each time it is reached (what is shared counts as often as it is met; a slice's spare places count too). A statement '..UptoSaid' is the law's where the arguments, and the package variables that the reading takes, are together of bulk at most 1048576: NARROWER than '..Said'. Prove '..Said' where nothing that the law and all that it calls make is longer than what came in: it says more and counts as full. Else prove '..UptoSaid'. A law counts once. -/
mutual
def uptoBulk {H : Type} : DataW H → Nat
  | .lit (.string bytes) => bytes.length + 1
  | .lit _ => 1
  | .nil => 1
  | .ptr d => uptoBulk d + 1
  | .slice elems spare => uptoBulkAll elems + uptoBulkAll spare + 1
  | .agg parts => uptoBulkAll parts + 1
  | .iface _ d => uptoBulk d + 1
  | .map entries => uptoBulkEntries entries + 1
  | .held _ => 1
def uptoBulkAll {H : Type} : List (DataW H) → Nat
  | [] => 0
  | d :: r => uptoBulk d + uptoBulkAll r
def uptoBulkEntries {H : Type} : List (Lit × DataW H) → Nat
  | [] => 0
  | x :: r => uptoBulkEntry x + uptoBulkEntries r
def uptoBulkEntry {H : Type} : Lit × DataW H → Nat
  | (.string bytes, d) => bytes.length + uptoBulk d + 1
  | (_, d) => uptoBulk d + 1
 end
def uptoSmall : (H : Type) → List (DataW H) → Bool := fun _ ds => decide (uptoBulkAll ds ≤ 1048576)
def OpenSpec.upto (s : _root_.Go.ChangeSpec) : _root_.Go.OpenSpec := { _root_.Go.OpenSpec.ofChange s with cond := some uptoSmall }

/-- 'corrallaw2.EncBack', WHERE WHAT IT READS IS OF BULK AT MOST 1048576: true; the input reads as it did. -/
def encBackUptoRow : OpenClaim := { program := "ytcaohimipkoapaa", sum := "19a351861781a9796f707fb0444bf2df18600fbd6a25608bfbddf7c086afe1f3", func := "corral/corrallaw2.EncBack", spec := "encBack", apart := false, narrowed := true }
def EncBackUptoSaid : Prop := encBackUptoRow.holds Try.pinned (OpenSpec.upto encBackSpec)

/-- 'corrallaw2.EncEach', WHERE WHAT IT READS IS OF BULK AT MOST 1048576: true; the input reads as it did. -/
def encEachUptoRow : OpenClaim := { program := "ytcaohimipkoapaa", sum := "19a351861781a9796f707fb0444bf2df18600fbd6a25608bfbddf7c086afe1f3", func := "corral/corrallaw2.EncEach", spec := "encEach", apart := false, narrowed := true }
def EncEachUptoSaid : Prop := encEachUptoRow.holds Try.pinned (OpenSpec.upto encEachSpec)

/-- 'corrallaw2.EncSays', WHERE WHAT IT READS IS OF BULK AT MOST 1048576: true; the input reads as it did. -/
def encSaysUptoRow : OpenClaim := { program := "ytcaohimipkoapaa", sum := "19a351861781a9796f707fb0444bf2df18600fbd6a25608bfbddf7c086afe1f3", func := "corral/corrallaw2.EncSays", spec := "encSays", apart := false, narrowed := true }
def EncSaysUptoSaid : Prop := encSaysUptoRow.holds Try.pinned (OpenSpec.upto encSaysSpec)

/-- 'corrallaw2.EncJoins', WHERE WHAT IT READS IS OF BULK AT MOST 1048576: true; the input reads as it did. -/
def encJoinsUptoRow : OpenClaim := { program := "ytcaohimipkoapaa", sum := "19a351861781a9796f707fb0444bf2df18600fbd6a25608bfbddf7c086afe1f3", func := "corral/corrallaw2.EncJoins", spec := "encJoins", apart := false, narrowed := true }
def EncJoinsUptoSaid : Prop := encJoinsUptoRow.holds Try.pinned (OpenSpec.upto encJoinsSpec)

/-- 'corrallaw6.CsrMasks', WHERE WHAT IT READS IS OF BULK AT MOST 1048576: true; the input reads as it did. -/
def csrMasksUptoRow : OpenClaim := { program := "ytcaohimipkoapaa", sum := "19a351861781a9796f707fb0444bf2df18600fbd6a25608bfbddf7c086afe1f3", func := "corral/corrallaw6.CsrMasks", spec := "csrMasks", apart := false, narrowed := true }
def CsrMasksUptoSaid : Prop := csrMasksUptoRow.holds Try.pinned (OpenSpec.upto csrMasksSpec)

/-- 'corrallaw6.CsrUser', WHERE WHAT IT READS IS OF BULK AT MOST 1048576: true; the input reads as it did. -/
def csrUserUptoRow : OpenClaim := { program := "ytcaohimipkoapaa", sum := "19a351861781a9796f707fb0444bf2df18600fbd6a25608bfbddf7c086afe1f3", func := "corral/corrallaw6.CsrUser", spec := "csrUser", apart := false, narrowed := true }
def CsrUserUptoSaid : Prop := csrUserUptoRow.holds Try.pinned (OpenSpec.upto csrUserSpec)

/-- 'corrallaw6.CsrNests', WHERE WHAT IT READS IS OF BULK AT MOST 1048576: true; the input reads as it did. -/
def csrNestsUptoRow : OpenClaim := { program := "ytcaohimipkoapaa", sum := "19a351861781a9796f707fb0444bf2df18600fbd6a25608bfbddf7c086afe1f3", func := "corral/corrallaw6.CsrNests", spec := "csrNests", apart := false, narrowed := true }
def CsrNestsUptoSaid : Prop := csrNestsUptoRow.holds Try.pinned (OpenSpec.upto csrNestsSpec)

/-- 'corrallaw6.CsrReturns', WHERE WHAT IT READS IS OF BULK AT MOST 1048576: true; the input reads as it did. -/
def csrReturnsUptoRow : OpenClaim := { program := "ytcaohimipkoapaa", sum := "19a351861781a9796f707fb0444bf2df18600fbd6a25608bfbddf7c086afe1f3", func := "corral/corrallaw6.CsrReturns", spec := "csrReturns", apart := false, narrowed := true }
def CsrReturnsUptoSaid : Prop := csrReturnsUptoRow.holds Try.pinned (OpenSpec.upto csrReturnsSpec)

/-- 'corrallaw6.CsrBells', WHERE WHAT IT READS IS OF BULK AT MOST 1048576: true; the input reads as it did. -/
def csrBellsUptoRow : OpenClaim := { program := "ytcaohimipkoapaa", sum := "19a351861781a9796f707fb0444bf2df18600fbd6a25608bfbddf7c086afe1f3", func := "corral/corrallaw6.CsrBells", spec := "csrBells", apart := false, narrowed := true }
def CsrBellsUptoSaid : Prop := csrBellsUptoRow.holds Try.pinned (OpenSpec.upto csrBellsSpec)

/-- 'corrallaw6.CsrPlays', WHERE WHAT IT READS IS OF BULK AT MOST 1048576: true; the input reads as it did. -/
def csrPlaysUptoRow : OpenClaim := { program := "ytcaohimipkoapaa", sum := "19a351861781a9796f707fb0444bf2df18600fbd6a25608bfbddf7c086afe1f3", func := "corral/corrallaw6.CsrPlays", spec := "csrPlays", apart := false, narrowed := true }
def CsrPlaysUptoSaid : Prop := csrPlaysUptoRow.holds Try.pinned (OpenSpec.upto csrPlaysSpec)

end Rows
end Go.Proofs.Ytcaohimipkoapaa
