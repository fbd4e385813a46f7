/-
  No cell of these rows narrows 'for every input' (looked for: loops, veiled, ifaces, maps, wideKeys, modest, calm, conditions, laid).
  DERIVED. THE GIVEN ROWS OF THIS SEAT. 4 by the template 'for every input the law returns true; each argument reads behind the call as it read before'; 0 by the template 'total and deterministic' (their statements: YtbcikaoklpekhaaTotals.lean).
  GIVEN WITH THE SEED: the statements are not yours to turn. If you find one false, say at which input.
  Laid BY PROGRAM, IN A SANDBOX (cutbox-rows.mjs): the forced cells as the released guide's own fill.sh prints them over the translation 1058368e9c317264… (all of the seat's roots in one cut). By AI agents, Wed Nov 11 2026. No macro, syntax, notation, axiom, sorry.
-/
import Derived.Test.YtbcikaoklpekhaaChecked
import GoSem.Claim
import GoSem.ClaimJoined
import GoSem.ClaimMapViews
import Derived.JoinedTies
import Derived.KernelRfl
namespace Go.Proofs.Ytbcikaoklpekhaa
/- THE CELL 'sum', in the pinned program and in every row, IS THE sha256 OF THE DUMP (.gsa) THAT YtbcikaoklpekhaaProg.lean LOADS. Nothing in Lean hashes anything: it is a label: what it is worth is what the hold of that sum in a sandbox is worth. -/
noncomputable def Try.pinned : Pinned := { name := "ytbcikaoklpekhaa", sum := "1058368e9c3172643be2f57524d1ceac02b8bf43c8f0fc22750f357c5a65e7e7", checked := Try.checked }
namespace Rows
def none {H : Type} : Left H := { results := [], args := [] }

/-- 'corrallaw12.DepGrows': WHATEVER THE INPUT: true; the input reads as it did. -/
def depGrowsSpec : ChangeSpec := { name := "depGrows", fn := fun _ => fun
  | [d1, d2] => { results := [.lit (.bool true)], args := [d1, d2] }
  | _ => none }
def depGrowsRow : OpenClaim := { program := "ytbcikaoklpekhaa", sum := "1058368e9c3172643be2f57524d1ceac02b8bf43c8f0fc22750f357c5a65e7e7", func := "corral/corrallaw12.DepGrows", spec := "depGrows", unfollowed := true, recurses := true, apart := false }
def DepGrowsSaid : Prop := depGrowsRow.holds Try.pinned (OpenSpec.ofChange depGrowsSpec)

/-- ITS FALSE NEIGHBOUR: 'it returns false'. Refute it at one input. -/
def depGrowsWrong : ChangeSpec := { name := "depGrows", fn := fun _ => fun
  | [d1, d2] => { results := [.lit (.bool false)], args := [d1, d2] }
  | _ => none }
def DepGrowsWrongFalsely : Prop := depGrowsRow.holds Try.pinned (OpenSpec.ofChange depGrowsWrong)

/-- 'corrallaw12.DepChain': WHATEVER THE INPUT: true; the input reads as it did. -/
def depChainSpec : ChangeSpec := { name := "depChain", fn := fun _ => fun
  | [d1, d2, d3] => { results := [.lit (.bool true)], args := [d1, d2, d3] }
  | _ => none }
def depChainRow : OpenClaim := { program := "ytbcikaoklpekhaa", sum := "1058368e9c3172643be2f57524d1ceac02b8bf43c8f0fc22750f357c5a65e7e7", func := "corral/corrallaw12.DepChain", spec := "depChain", unfollowed := true, recurses := true, apart := false }
def DepChainSaid : Prop := depChainRow.holds Try.pinned (OpenSpec.ofChange depChainSpec)

/-- ITS FALSE NEIGHBOUR: 'it returns false'. Refute it at one input. -/
def depChainWrong : ChangeSpec := { name := "depChain", fn := fun _ => fun
  | [d1, d2, d3] => { results := [.lit (.bool false)], args := [d1, d2, d3] }
  | _ => none }
def DepChainWrongFalsely : Prop := depChainRow.holds Try.pinned (OpenSpec.ofChange depChainWrong)

/-- 'corrallaw12.DepBranches': WHATEVER THE INPUT: true; the input reads as it did. -/
def depBranchesSpec : ChangeSpec := { name := "depBranches", fn := fun _ => fun
  | [d1, d2, d3] => { results := [.lit (.bool true)], args := [d1, d2, d3] }
  | _ => none }
def depBranchesRow : OpenClaim := { program := "ytbcikaoklpekhaa", sum := "1058368e9c3172643be2f57524d1ceac02b8bf43c8f0fc22750f357c5a65e7e7", func := "corral/corrallaw12.DepBranches", spec := "depBranches", unfollowed := true, recurses := true, apart := false }
def DepBranchesSaid : Prop := depBranchesRow.holds Try.pinned (OpenSpec.ofChange depBranchesSpec)

/-- ITS FALSE NEIGHBOUR: 'it returns false'. Refute it at one input. -/
def depBranchesWrong : ChangeSpec := { name := "depBranches", fn := fun _ => fun
  | [d1, d2, d3] => { results := [.lit (.bool false)], args := [d1, d2, d3] }
  | _ => none }
def DepBranchesWrongFalsely : Prop := depBranchesRow.holds Try.pinned (OpenSpec.ofChange depBranchesWrong)

/-- 'corrallaw12.DepPlaces': WHATEVER THE INPUT: true; the input reads as it did. -/
def depPlacesSpec : ChangeSpec := { name := "depPlaces", fn := fun _ => fun
  | [d] => { results := [.lit (.bool true)], args := [d] }
  | _ => none }
def depPlacesRow : OpenClaim := { program := "ytbcikaoklpekhaa", sum := "1058368e9c3172643be2f57524d1ceac02b8bf43c8f0fc22750f357c5a65e7e7", func := "corral/corrallaw12.DepPlaces", spec := "depPlaces", unfollowed := true, recurses := true, apart := false }
def DepPlacesSaid : Prop := depPlacesRow.holds Try.pinned (OpenSpec.ofChange depPlacesSpec)

/-- ITS FALSE NEIGHBOUR: 'it returns false'. Refute it at one input. -/
def depPlacesWrong : ChangeSpec := { name := "depPlaces", fn := fun _ => fun
  | [d] => { results := [.lit (.bool false)], args := [d] }
  | _ => none }
def DepPlacesWrongFalsely : Prop := depPlacesRow.holds Try.pinned (OpenSpec.ofChange depPlacesWrong)

/- THE SECOND FORM. 'bulk': how many values and letters a reading holds, each counted each time it is reached (what is shared counts as often as it is met; a slice's spare places count too). A statement '..UptoSaid' is the law's where the arguments, and the package variables that the reading takes, are together of bulk at most 1048576: NARROWER than '..Said'. Prove '..Said' where nothing that the law and all that it calls make is longer than what came in: it says more and counts as full. Else prove '..UptoSaid'. A law counts once. -/
mutual
def uptoBulk {H : Type} : DataW H → Nat
  | .lit (.string bytes) => bytes.length + 1
  | .lit _ => 1
  | .nil => 1
  | .ptr d => uptoBulk d + 1
  | .slice elems spare => uptoBulkAll elems + uptoBulkAll spare + 1
  | .agg parts => uptoBulkAll parts + 1
  | .iface _ d => uptoBulk d + 1
  | .map entries => uptoBulkEntries entries + 1
  | .held _ => 1
def uptoBulkAll {H : Type} : List (DataW H) → Nat
  | [] => 0
  | d :: r => uptoBulk d + uptoBulkAll r
def uptoBulkEntries {H : Type} : List (Lit × DataW H) → Nat
  | [] => 0
  | x :: r => uptoBulkEntry x + uptoBulkEntries r
def uptoBulkEntry {H : Type} : Lit × DataW H → Nat
  | (.string bytes, d) => bytes.length + uptoBulk d + 1
  | (_, d) => uptoBulk d + 1
 end
def uptoSmall : (H : Type) → List (DataW H) → Bool := fun _ ds => decide (uptoBulkAll ds ≤ 1048576)
def OpenSpec.upto (s : _root_.Go.ChangeSpec) : _root_.Go.OpenSpec := { _root_.Go.OpenSpec.ofChange s with cond := some uptoSmall }

/-- 'corrallaw12.DepGrows', WHERE WHAT IT READS IS OF BULK AT MOST 1048576: true; the input reads as it did. -/
def depGrowsUptoRow : OpenClaim := { program := "ytbcikaoklpekhaa", sum := "1058368e9c3172643be2f57524d1ceac02b8bf43c8f0fc22750f357c5a65e7e7", func := "corral/corrallaw12.DepGrows", spec := "depGrows", unfollowed := true, recurses := true, apart := false, narrowed := true }
def DepGrowsUptoSaid : Prop := depGrowsUptoRow.holds Try.pinned (OpenSpec.upto depGrowsSpec)

/-- 'corrallaw12.DepChain', WHERE WHAT IT READS IS OF BULK AT MOST 1048576: true; the input reads as it did. -/
def depChainUptoRow : OpenClaim := { program := "ytbcikaoklpekhaa", sum := "1058368e9c3172643be2f57524d1ceac02b8bf43c8f0fc22750f357c5a65e7e7", func := "corral/corrallaw12.DepChain", spec := "depChain", unfollowed := true, recurses := true, apart := false, narrowed := true }
def DepChainUptoSaid : Prop := depChainUptoRow.holds Try.pinned (OpenSpec.upto depChainSpec)

/-- 'corrallaw12.DepBranches', WHERE WHAT IT READS IS OF BULK AT MOST 1048576: true; the input reads as it did. -/
def depBranchesUptoRow : OpenClaim := { program := "ytbcikaoklpekhaa", sum := "1058368e9c3172643be2f57524d1ceac02b8bf43c8f0fc22750f357c5a65e7e7", func := "corral/corrallaw12.DepBranches", spec := "depBranches", unfollowed := true, recurses := true, apart := false, narrowed := true }
def DepBranchesUptoSaid : Prop := depBranchesUptoRow.holds Try.pinned (OpenSpec.upto depBranchesSpec)

/-- 'corrallaw12.DepPlaces', WHERE WHAT IT READS IS OF BULK AT MOST 1048576: true; the input reads as it did. -/
def depPlacesUptoRow : OpenClaim := { program := "ytbcikaoklpekhaa", sum := "1058368e9c3172643be2f57524d1ceac02b8bf43c8f0fc22750f357c5a65e7e7", func := "corral/corrallaw12.DepPlaces", spec := "depPlaces", unfollowed := true, recurses := true, apart := false, narrowed := true }
def DepPlacesUptoSaid : Prop := depPlacesUptoRow.holds Try.pinned (OpenSpec.upto depPlacesSpec)

end Rows
end Go.Proofs.Ytbcikaoklpekhaa
