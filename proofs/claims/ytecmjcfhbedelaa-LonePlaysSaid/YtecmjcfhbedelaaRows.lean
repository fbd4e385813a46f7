/-
  No cell of these rows narrows 'for every input' (looked for: loops, veiled, ifaces, maps, wideKeys, modest, calm, conditions, laid).
  DERIVED. THE GIVEN ROWS OF THIS SEAT. 7 by the template 'for every input the law returns true; each argument reads behind the call as it read before'; 0 by the template 'total and deterministic' (their statements: YtecmjcfhbedelaaTotals.lean).
  GIVEN WITH THE SEED: the statements are not yours to turn. If you find one false, say at which input.
  Laid BY PROGRAM, IN A SANDBOX (cutbox-rows.mjs): the forced cells as the released guide's own fill.sh prints them over the translation 8014c4024059e098… (all of the seat's roots in one cut). By AI agents, Wed Nov 11 2026. No macro, syntax, notation, axiom, sorry.
-/
import Derived.Test.YtecmjcfhbedelaaChecked
import GoSem.Claim
import GoSem.ClaimJoined
import GoSem.ClaimMapViews
import Derived.JoinedTies
import Derived.KernelRfl
namespace Go.Proofs.Ytecmjcfhbedelaa
/- THE CELL 'sum', in the pinned program and in every row, IS THE sha256 OF THE DUMP (.gsa) THAT YtecmjcfhbedelaaProg.lean LOADS. Nothing in Lean hashes anything: it is a label: what it is worth is what the hold of that sum in a sandbox is worth. -/
noncomputable def Try.pinned : Pinned := { name := "ytecmjcfhbedelaa", sum := "8014c4024059e0982efcbdbba4de3b87e2a5d078a08993b831bb0c5759ff19a6", checked := Try.checked }
namespace Rows
def none {H : Type} : Left H := { results := [], args := [] }

/-- 'corrallaw19.LoneAnswers': WHATEVER THE INPUT: true; the input reads as it did. -/
def loneAnswersSpec : ChangeSpec := { name := "loneAnswers", fn := fun _ => fun
  | [d1, d2, d3] => { results := [.lit (.bool true)], args := [d1, d2, d3] }
  | _ => none }
def loneAnswersRow : OpenClaim := { program := "ytecmjcfhbedelaa", sum := "8014c4024059e0982efcbdbba4de3b87e2a5d078a08993b831bb0c5759ff19a6", func := "corral/corrallaw19.LoneAnswers", spec := "loneAnswers", apart := false }
def LoneAnswersSaid : Prop := loneAnswersRow.holds Try.pinned (OpenSpec.ofChange loneAnswersSpec)

/-- ITS FALSE NEIGHBOUR: 'it returns false'. Refute it at one input. -/
def loneAnswersWrong : ChangeSpec := { name := "loneAnswers", fn := fun _ => fun
  | [d1, d2, d3] => { results := [.lit (.bool false)], args := [d1, d2, d3] }
  | _ => none }
def LoneAnswersWrongFalsely : Prop := loneAnswersRow.holds Try.pinned (OpenSpec.ofChange loneAnswersWrong)

/-- 'corrallaw9.WalkEnds': WHATEVER THE INPUT: true; the input reads as it did. -/
def walkEndsSpec : ChangeSpec := { name := "walkEnds", fn := fun _ => fun
  | [d1, d2, d3, d4, d5] => { results := [.lit (.bool true)], args := [d1, d2, d3, d4, d5] }
  | _ => none }
def walkEndsRow : OpenClaim := { program := "ytecmjcfhbedelaa", sum := "8014c4024059e0982efcbdbba4de3b87e2a5d078a08993b831bb0c5759ff19a6", func := "corral/corrallaw9.WalkEnds", spec := "walkEnds", apart := false }
def WalkEndsSaid : Prop := walkEndsRow.holds Try.pinned (OpenSpec.ofChange walkEndsSpec)

/-- ITS FALSE NEIGHBOUR: 'it returns false'. Refute it at one input. -/
def walkEndsWrong : ChangeSpec := { name := "walkEnds", fn := fun _ => fun
  | [d1, d2, d3, d4, d5] => { results := [.lit (.bool false)], args := [d1, d2, d3, d4, d5] }
  | _ => none }
def WalkEndsWrongFalsely : Prop := walkEndsRow.holds Try.pinned (OpenSpec.ofChange walkEndsWrong)

/-- 'corrallaw9.WalkPages': WHATEVER THE INPUT: true; the input reads as it did. -/
def walkPagesSpec : ChangeSpec := { name := "walkPages", fn := fun _ => fun
  | [d1, d2, d3, d4, d5, d6] => { results := [.lit (.bool true)], args := [d1, d2, d3, d4, d5, d6] }
  | _ => none }
def walkPagesRow : OpenClaim := { program := "ytecmjcfhbedelaa", sum := "8014c4024059e0982efcbdbba4de3b87e2a5d078a08993b831bb0c5759ff19a6", func := "corral/corrallaw9.WalkPages", spec := "walkPages", apart := false }
def WalkPagesSaid : Prop := walkPagesRow.holds Try.pinned (OpenSpec.ofChange walkPagesSpec)

/-- ITS FALSE NEIGHBOUR: 'it returns false'. Refute it at one input. -/
def walkPagesWrong : ChangeSpec := { name := "walkPages", fn := fun _ => fun
  | [d1, d2, d3, d4, d5, d6] => { results := [.lit (.bool false)], args := [d1, d2, d3, d4, d5, d6] }
  | _ => none }
def WalkPagesWrongFalsely : Prop := walkPagesRow.holds Try.pinned (OpenSpec.ofChange walkPagesWrong)

/-- 'corrallaw9.WalkMarks': WHATEVER THE INPUT: true; the input reads as it did. -/
def walkMarksSpec : ChangeSpec := { name := "walkMarks", fn := fun _ => fun
  | [d1, d2, d3] => { results := [.lit (.bool true)], args := [d1, d2, d3] }
  | _ => none }
def walkMarksRow : OpenClaim := { program := "ytecmjcfhbedelaa", sum := "8014c4024059e0982efcbdbba4de3b87e2a5d078a08993b831bb0c5759ff19a6", func := "corral/corrallaw9.WalkMarks", spec := "walkMarks", apart := false }
def WalkMarksSaid : Prop := walkMarksRow.holds Try.pinned (OpenSpec.ofChange walkMarksSpec)

/-- ITS FALSE NEIGHBOUR: 'it returns false'. Refute it at one input. -/
def walkMarksWrong : ChangeSpec := { name := "walkMarks", fn := fun _ => fun
  | [d1, d2, d3] => { results := [.lit (.bool false)], args := [d1, d2, d3] }
  | _ => none }
def WalkMarksWrongFalsely : Prop := walkMarksRow.holds Try.pinned (OpenSpec.ofChange walkMarksWrong)

/-- 'corrallaw9.WalkOdd': WHATEVER THE INPUT: true; the input reads as it did. -/
def walkOddSpec : ChangeSpec := { name := "walkOdd", fn := fun _ => fun
  | [d1, d2, d3] => { results := [.lit (.bool true)], args := [d1, d2, d3] }
  | _ => none }
def walkOddRow : OpenClaim := { program := "ytecmjcfhbedelaa", sum := "8014c4024059e0982efcbdbba4de3b87e2a5d078a08993b831bb0c5759ff19a6", func := "corral/corrallaw9.WalkOdd", spec := "walkOdd", apart := false }
def WalkOddSaid : Prop := walkOddRow.holds Try.pinned (OpenSpec.ofChange walkOddSpec)

/-- ITS FALSE NEIGHBOUR: 'it returns false'. Refute it at one input. -/
def walkOddWrong : ChangeSpec := { name := "walkOdd", fn := fun _ => fun
  | [d1, d2, d3] => { results := [.lit (.bool false)], args := [d1, d2, d3] }
  | _ => none }
def WalkOddWrongFalsely : Prop := walkOddRow.holds Try.pinned (OpenSpec.ofChange walkOddWrong)

/-- 'corrallaw19.LoneWaits': WHATEVER THE INPUT: true; the input reads as it did. -/
def loneWaitsSpec : ChangeSpec := { name := "loneWaits", fn := fun _ => fun
  | [d1, d2, d3, d4] => { results := [.lit (.bool true)], args := [d1, d2, d3, d4] }
  | _ => none }
def loneWaitsRow : OpenClaim := { program := "ytecmjcfhbedelaa", sum := "8014c4024059e0982efcbdbba4de3b87e2a5d078a08993b831bb0c5759ff19a6", func := "corral/corrallaw19.LoneWaits", spec := "loneWaits", apart := false }
def LoneWaitsSaid : Prop := loneWaitsRow.holds Try.pinned (OpenSpec.ofChange loneWaitsSpec)

/-- ITS FALSE NEIGHBOUR: 'it returns false'. Refute it at one input. -/
def loneWaitsWrong : ChangeSpec := { name := "loneWaits", fn := fun _ => fun
  | [d1, d2, d3, d4] => { results := [.lit (.bool false)], args := [d1, d2, d3, d4] }
  | _ => none }
def LoneWaitsWrongFalsely : Prop := loneWaitsRow.holds Try.pinned (OpenSpec.ofChange loneWaitsWrong)

/-- 'corrallaw19.LonePlays': WHATEVER THE INPUT: true; the input reads as it did. -/
def lonePlaysSpec : ChangeSpec := { name := "lonePlays", fn := fun _ => fun
  | [d1, d2, d3] => { results := [.lit (.bool true)], args := [d1, d2, d3] }
  | _ => none }
def lonePlaysRow : OpenClaim := { program := "ytecmjcfhbedelaa", sum := "8014c4024059e0982efcbdbba4de3b87e2a5d078a08993b831bb0c5759ff19a6", func := "corral/corrallaw19.LonePlays", spec := "lonePlays", apart := false }
def LonePlaysSaid : Prop := lonePlaysRow.holds Try.pinned (OpenSpec.ofChange lonePlaysSpec)

/-- ITS FALSE NEIGHBOUR: 'it returns false'. Refute it at one input. -/
def lonePlaysWrong : ChangeSpec := { name := "lonePlays", fn := fun _ => fun
  | [d1, d2, d3] => { results := [.lit (.bool false)], args := [d1, d2, d3] }
  | _ => none }
def LonePlaysWrongFalsely : Prop := lonePlaysRow.holds Try.pinned (OpenSpec.ofChange lonePlaysWrong)

/- THE SECOND FORM. 'bulk': how many values and letters a reading holds, each counted each time it is reached (what is shared counts as often as it is met; a slice's spare places count too). A statement '..UptoSaid' is the law's where the arguments, and the package variables that the reading takes, are together of bulk at most 1048576: NARROWER than '..Said'. Prove '..Said' where nothing that the law and all that it calls make is longer than what came in: it says more and counts as full. Else prove '..UptoSaid'. A law counts once. -/
mutual
def uptoBulk {H : Type} : DataW H → Nat
  | .lit (.string bytes) => bytes.length + 1
  | .lit _ => 1
  | .nil => 1
  | .ptr d => uptoBulk d + 1
  | .slice elems spare => uptoBulkAll elems + uptoBulkAll spare + 1
  | .agg parts => uptoBulkAll parts + 1
  | .iface _ d => uptoBulk d + 1
  | .map entries => uptoBulkEntries entries + 1
  | .held _ => 1
def uptoBulkAll {H : Type} : List (DataW H) → Nat
  | [] => 0
  | d :: r => uptoBulk d + uptoBulkAll r
def uptoBulkEntries {H : Type} : List (Lit × DataW H) → Nat
  | [] => 0
  | x :: r => uptoBulkEntry x + uptoBulkEntries r
def uptoBulkEntry {H : Type} : Lit × DataW H → Nat
  | (.string bytes, d) => bytes.length + uptoBulk d + 1
  | (_, d) => uptoBulk d + 1
 end
def uptoSmall : (H : Type) → List (DataW H) → Bool := fun _ ds => decide (uptoBulkAll ds ≤ 1048576)
def OpenSpec.upto (s : _root_.Go.ChangeSpec) : _root_.Go.OpenSpec := { _root_.Go.OpenSpec.ofChange s with cond := some uptoSmall }

/-- 'corrallaw19.LoneAnswers', WHERE WHAT IT READS IS OF BULK AT MOST 1048576: true; the input reads as it did. -/
def loneAnswersUptoRow : OpenClaim := { program := "ytecmjcfhbedelaa", sum := "8014c4024059e0982efcbdbba4de3b87e2a5d078a08993b831bb0c5759ff19a6", func := "corral/corrallaw19.LoneAnswers", spec := "loneAnswers", apart := false, narrowed := true }
def LoneAnswersUptoSaid : Prop := loneAnswersUptoRow.holds Try.pinned (OpenSpec.upto loneAnswersSpec)

/-- 'corrallaw9.WalkEnds', WHERE WHAT IT READS IS OF BULK AT MOST 1048576: true; the input reads as it did. -/
def walkEndsUptoRow : OpenClaim := { program := "ytecmjcfhbedelaa", sum := "8014c4024059e0982efcbdbba4de3b87e2a5d078a08993b831bb0c5759ff19a6", func := "corral/corrallaw9.WalkEnds", spec := "walkEnds", apart := false, narrowed := true }
def WalkEndsUptoSaid : Prop := walkEndsUptoRow.holds Try.pinned (OpenSpec.upto walkEndsSpec)

/-- 'corrallaw9.WalkPages', WHERE WHAT IT READS IS OF BULK AT MOST 1048576: true; the input reads as it did. -/
def walkPagesUptoRow : OpenClaim := { program := "ytecmjcfhbedelaa", sum := "8014c4024059e0982efcbdbba4de3b87e2a5d078a08993b831bb0c5759ff19a6", func := "corral/corrallaw9.WalkPages", spec := "walkPages", apart := false, narrowed := true }
def WalkPagesUptoSaid : Prop := walkPagesUptoRow.holds Try.pinned (OpenSpec.upto walkPagesSpec)

/-- 'corrallaw9.WalkMarks', WHERE WHAT IT READS IS OF BULK AT MOST 1048576: true; the input reads as it did. -/
def walkMarksUptoRow : OpenClaim := { program := "ytecmjcfhbedelaa", sum := "8014c4024059e0982efcbdbba4de3b87e2a5d078a08993b831bb0c5759ff19a6", func := "corral/corrallaw9.WalkMarks", spec := "walkMarks", apart := false, narrowed := true }
def WalkMarksUptoSaid : Prop := walkMarksUptoRow.holds Try.pinned (OpenSpec.upto walkMarksSpec)

/-- 'corrallaw9.WalkOdd', WHERE WHAT IT READS IS OF BULK AT MOST 1048576: true; the input reads as it did. -/
def walkOddUptoRow : OpenClaim := { program := "ytecmjcfhbedelaa", sum := "8014c4024059e0982efcbdbba4de3b87e2a5d078a08993b831bb0c5759ff19a6", func := "corral/corrallaw9.WalkOdd", spec := "walkOdd", apart := false, narrowed := true }
def WalkOddUptoSaid : Prop := walkOddUptoRow.holds Try.pinned (OpenSpec.upto walkOddSpec)

/-- 'corrallaw19.LoneWaits', WHERE WHAT IT READS IS OF BULK AT MOST 1048576: true; the input reads as it did. -/
def loneWaitsUptoRow : OpenClaim := { program := "ytecmjcfhbedelaa", sum := "8014c4024059e0982efcbdbba4de3b87e2a5d078a08993b831bb0c5759ff19a6", func := "corral/corrallaw19.LoneWaits", spec := "loneWaits", apart := false, narrowed := true }
def LoneWaitsUptoSaid : Prop := loneWaitsUptoRow.holds Try.pinned (OpenSpec.upto loneWaitsSpec)

/-- 'corrallaw19.LonePlays', WHERE WHAT IT READS IS OF BULK AT MOST 1048576: true; the input reads as it did. -/
def lonePlaysUptoRow : OpenClaim := { program := "ytecmjcfhbedelaa", sum := "8014c4024059e0982efcbdbba4de3b87e2a5d078a08993b831bb0c5759ff19a6", func := "corral/corrallaw19.LonePlays", spec := "lonePlays", apart := false, narrowed := true }
def LonePlaysUptoSaid : Prop := lonePlaysUptoRow.holds Try.pinned (OpenSpec.upto lonePlaysSpec)

end Rows
end Go.Proofs.Ytecmjcfhbedelaa
