/-
  No cell of these rows narrows 'for every input' (looked for: loops, veiled, ifaces, maps, wideKeys, modest, calm, conditions, laid).
  DERIVED. THE GIVEN ROWS OF THIS SEAT. 10 by the template 'for every input the law returns true; each argument reads behind the call as it read before'; 0 by the template 'total and deterministic' (their statements: YthpaieglgjjbiaaTotals.lean).
  GIVEN WITH THE SEED: the statements are not yours to turn. If you find one false, say at which input.
  Laid BY PROGRAM, IN A SANDBOX (cutbox-rows.mjs): the forced cells as the released guide's own fill.sh prints them over the translation 0d8ba28e0a405786… (all of the seat's roots in one cut). By AI agents, Wed Nov 11 2026. No macro, syntax, notation, axiom, sorry.
-/
import Derived.Test.YthpaieglgjjbiaaChecked
import GoSem.Claim
import GoSem.ClaimJoined
import GoSem.ClaimMapViews
import Derived.JoinedTies
import Derived.KernelRfl
namespace Go.Proofs.Ythpaieglgjjbiaa
/- THE CELL 'sum', in the pinned program and in every row, IS THE sha256 OF THE DUMP (.gsa) THAT YthpaieglgjjbiaaProg.lean LOADS. Nothing in Lean hashes anything: it is a label: what it is worth is what the hold of that sum in a sandbox is worth. -/
noncomputable def Try.pinned : Pinned := { name := "ythpaieglgjjbiaa", sum := "0d8ba28e0a405786db1a284c9122551932734bbb5a68594ad9f622f1b84cb358", checked := Try.checked }
namespace Rows
def none {H : Type} : Left H := { results := [], args := [] }

/-- 'corrallaw8.PteModes': WHATEVER THE INPUT: true; the input reads as it did. -/
def pteModesSpec : ChangeSpec := { name := "pteModes", fn := fun _ => fun
  | [d1, d2] => { results := [.lit (.bool true)], args := [d1, d2] }
  | _ => none }
def pteModesRow : OpenClaim := { program := "ythpaieglgjjbiaa", sum := "0d8ba28e0a405786db1a284c9122551932734bbb5a68594ad9f622f1b84cb358", func := "corral/corrallaw8.PteModes", spec := "pteModes", apart := false }
def PteModesSaid : Prop := pteModesRow.holds Try.pinned (OpenSpec.ofChange pteModesSpec)

/-- ITS FALSE NEIGHBOUR: 'it returns false'. Refute it at one input. -/
def pteModesWrong : ChangeSpec := { name := "pteModes", fn := fun _ => fun
  | [d1, d2] => { results := [.lit (.bool false)], args := [d1, d2] }
  | _ => none }
def PteModesWrongFalsely : Prop := pteModesRow.holds Try.pinned (OpenSpec.ofChange pteModesWrong)

/-- 'corrallaw8.PteKinds': WHATEVER THE INPUT: true; the input reads as it did. -/
def pteKindsSpec : ChangeSpec := { name := "pteKinds", fn := fun _ => fun
  | [d1, d2, d3] => { results := [.lit (.bool true)], args := [d1, d2, d3] }
  | _ => none }
def pteKindsRow : OpenClaim := { program := "ythpaieglgjjbiaa", sum := "0d8ba28e0a405786db1a284c9122551932734bbb5a68594ad9f622f1b84cb358", func := "corral/corrallaw8.PteKinds", spec := "pteKinds", apart := false }
def PteKindsSaid : Prop := pteKindsRow.holds Try.pinned (OpenSpec.ofChange pteKindsSpec)

/-- ITS FALSE NEIGHBOUR: 'it returns false'. Refute it at one input. -/
def pteKindsWrong : ChangeSpec := { name := "pteKinds", fn := fun _ => fun
  | [d1, d2, d3] => { results := [.lit (.bool false)], args := [d1, d2, d3] }
  | _ => none }
def PteKindsWrongFalsely : Prop := pteKindsRow.holds Try.pinned (OpenSpec.ofChange pteKindsWrong)

/-- 'corrallaw8.PteMakes': WHATEVER THE INPUT: true; the input reads as it did. -/
def pteMakesSpec : ChangeSpec := { name := "pteMakes", fn := fun _ => fun
  | [d1, d2, d3] => { results := [.lit (.bool true)], args := [d1, d2, d3] }
  | _ => none }
def pteMakesRow : OpenClaim := { program := "ythpaieglgjjbiaa", sum := "0d8ba28e0a405786db1a284c9122551932734bbb5a68594ad9f622f1b84cb358", func := "corral/corrallaw8.PteMakes", spec := "pteMakes", apart := false }
def PteMakesSaid : Prop := pteMakesRow.holds Try.pinned (OpenSpec.ofChange pteMakesSpec)

/-- ITS FALSE NEIGHBOUR: 'it returns false'. Refute it at one input. -/
def pteMakesWrong : ChangeSpec := { name := "pteMakes", fn := fun _ => fun
  | [d1, d2, d3] => { results := [.lit (.bool false)], args := [d1, d2, d3] }
  | _ => none }
def PteMakesWrongFalsely : Prop := pteMakesRow.holds Try.pinned (OpenSpec.ofChange pteMakesWrong)

/-- 'corrallaw1.WordPacks': WHATEVER THE INPUT: true; the input reads as it did. -/
def wordPacksSpec : ChangeSpec := { name := "wordPacks", fn := fun _ => fun
  | [d] => { results := [.lit (.bool true)], args := [d] }
  | _ => none }
def wordPacksRow : OpenClaim := { program := "ythpaieglgjjbiaa", sum := "0d8ba28e0a405786db1a284c9122551932734bbb5a68594ad9f622f1b84cb358", func := "corral/corrallaw1.WordPacks", spec := "wordPacks", apart := false }
def WordPacksSaid : Prop := wordPacksRow.holds Try.pinned (OpenSpec.ofChange wordPacksSpec)

/-- ITS FALSE NEIGHBOUR: 'it returns false'. Refute it at one input. -/
def wordPacksWrong : ChangeSpec := { name := "wordPacks", fn := fun _ => fun
  | [d] => { results := [.lit (.bool false)], args := [d] }
  | _ => none }
def WordPacksWrongFalsely : Prop := wordPacksRow.holds Try.pinned (OpenSpec.ofChange wordPacksWrong)

/-- 'corrallaw1.WordBits': WHATEVER THE INPUT: true; the input reads as it did. -/
def wordBitsSpec : ChangeSpec := { name := "wordBits", fn := fun _ => fun
  | [d1, d2, d3, d4, d5] => { results := [.lit (.bool true)], args := [d1, d2, d3, d4, d5] }
  | _ => none }
def wordBitsRow : OpenClaim := { program := "ythpaieglgjjbiaa", sum := "0d8ba28e0a405786db1a284c9122551932734bbb5a68594ad9f622f1b84cb358", func := "corral/corrallaw1.WordBits", spec := "wordBits", apart := false }
def WordBitsSaid : Prop := wordBitsRow.holds Try.pinned (OpenSpec.ofChange wordBitsSpec)

/-- ITS FALSE NEIGHBOUR: 'it returns false'. Refute it at one input. -/
def wordBitsWrong : ChangeSpec := { name := "wordBits", fn := fun _ => fun
  | [d1, d2, d3, d4, d5] => { results := [.lit (.bool false)], args := [d1, d2, d3, d4, d5] }
  | _ => none }
def WordBitsWrongFalsely : Prop := wordBitsRow.holds Try.pinned (OpenSpec.ofChange wordBitsWrong)

/-- 'corrallaw1.WordDivides': WHATEVER THE INPUT: true; the input reads as it did. -/
def wordDividesSpec : ChangeSpec := { name := "wordDivides", fn := fun _ => fun
  | [d1, d2] => { results := [.lit (.bool true)], args := [d1, d2] }
  | _ => none }
def wordDividesRow : OpenClaim := { program := "ythpaieglgjjbiaa", sum := "0d8ba28e0a405786db1a284c9122551932734bbb5a68594ad9f622f1b84cb358", func := "corral/corrallaw1.WordDivides", spec := "wordDivides", apart := false }
def WordDividesSaid : Prop := wordDividesRow.holds Try.pinned (OpenSpec.ofChange wordDividesSpec)

/-- ITS FALSE NEIGHBOUR: 'it returns false'. Refute it at one input. -/
def wordDividesWrong : ChangeSpec := { name := "wordDivides", fn := fun _ => fun
  | [d1, d2] => { results := [.lit (.bool false)], args := [d1, d2] }
  | _ => none }
def WordDividesWrongFalsely : Prop := wordDividesRow.holds Try.pinned (OpenSpec.ofChange wordDividesWrong)

/-- 'corrallaw1.WordSigns': WHATEVER THE INPUT: true; the input reads as it did. -/
def wordSignsSpec : ChangeSpec := { name := "wordSigns", fn := fun _ => fun
  | [d1, d2, d3] => { results := [.lit (.bool true)], args := [d1, d2, d3] }
  | _ => none }
def wordSignsRow : OpenClaim := { program := "ythpaieglgjjbiaa", sum := "0d8ba28e0a405786db1a284c9122551932734bbb5a68594ad9f622f1b84cb358", func := "corral/corrallaw1.WordSigns", spec := "wordSigns", apart := false }
def WordSignsSaid : Prop := wordSignsRow.holds Try.pinned (OpenSpec.ofChange wordSignsSpec)

/-- ITS FALSE NEIGHBOUR: 'it returns false'. Refute it at one input. -/
def wordSignsWrong : ChangeSpec := { name := "wordSigns", fn := fun _ => fun
  | [d1, d2, d3] => { results := [.lit (.bool false)], args := [d1, d2, d3] }
  | _ => none }
def WordSignsWrongFalsely : Prop := wordSignsRow.holds Try.pinned (OpenSpec.ofChange wordSignsWrong)

/-- 'corrallaw1.WordShifts': WHATEVER THE INPUT: true; the input reads as it did. -/
def wordShiftsSpec : ChangeSpec := { name := "wordShifts", fn := fun _ => fun
  | [d1, d2] => { results := [.lit (.bool true)], args := [d1, d2] }
  | _ => none }
def wordShiftsRow : OpenClaim := { program := "ythpaieglgjjbiaa", sum := "0d8ba28e0a405786db1a284c9122551932734bbb5a68594ad9f622f1b84cb358", func := "corral/corrallaw1.WordShifts", spec := "wordShifts", apart := false }
def WordShiftsSaid : Prop := wordShiftsRow.holds Try.pinned (OpenSpec.ofChange wordShiftsSpec)

/-- ITS FALSE NEIGHBOUR: 'it returns false'. Refute it at one input. -/
def wordShiftsWrong : ChangeSpec := { name := "wordShifts", fn := fun _ => fun
  | [d1, d2] => { results := [.lit (.bool false)], args := [d1, d2] }
  | _ => none }
def WordShiftsWrongFalsely : Prop := wordShiftsRow.holds Try.pinned (OpenSpec.ofChange wordShiftsWrong)

/-- 'corrallaw8.PteSays': WHATEVER THE INPUT: true; the input reads as it did. -/
def pteSaysSpec : ChangeSpec := { name := "pteSays", fn := fun _ => fun
  | [d1, d2, d3, d4] => { results := [.lit (.bool true)], args := [d1, d2, d3, d4] }
  | _ => none }
def pteSaysRow : OpenClaim := { program := "ythpaieglgjjbiaa", sum := "0d8ba28e0a405786db1a284c9122551932734bbb5a68594ad9f622f1b84cb358", func := "corral/corrallaw8.PteSays", spec := "pteSays", apart := false }
def PteSaysSaid : Prop := pteSaysRow.holds Try.pinned (OpenSpec.ofChange pteSaysSpec)

/-- ITS FALSE NEIGHBOUR: 'it returns false'. Refute it at one input. -/
def pteSaysWrong : ChangeSpec := { name := "pteSays", fn := fun _ => fun
  | [d1, d2, d3, d4] => { results := [.lit (.bool false)], args := [d1, d2, d3, d4] }
  | _ => none }
def PteSaysWrongFalsely : Prop := pteSaysRow.holds Try.pinned (OpenSpec.ofChange pteSaysWrong)

/-- 'corrallaw1.WordSays': WHATEVER THE INPUT: true; the input reads as it did. -/
def wordSaysSpec : ChangeSpec := { name := "wordSays", fn := fun _ => fun
  | [d1, d2, d3, d4, d5, d6] => { results := [.lit (.bool true)], args := [d1, d2, d3, d4, d5, d6] }
  | _ => none }
def wordSaysRow : OpenClaim := { program := "ythpaieglgjjbiaa", sum := "0d8ba28e0a405786db1a284c9122551932734bbb5a68594ad9f622f1b84cb358", func := "corral/corrallaw1.WordSays", spec := "wordSays", apart := false }
def WordSaysSaid : Prop := wordSaysRow.holds Try.pinned (OpenSpec.ofChange wordSaysSpec)

/-- ITS FALSE NEIGHBOUR: 'it returns false'. Refute it at one input. -/
def wordSaysWrong : ChangeSpec := { name := "wordSays", fn := fun _ => fun
  | [d1, d2, d3, d4, d5, d6] => { results := [.lit (.bool false)], args := [d1, d2, d3, d4, d5, d6] }
  | _ => none }
def WordSaysWrongFalsely : Prop := wordSaysRow.holds Try.pinned (OpenSpec.ofChange wordSaysWrong)

/- THE SECOND FORM. 'bulk': how many values and letters a reading holds, each counted each time it is reached (what is shared counts as often as it is met; a slice's spare places count too). A statement '..UptoSaid' is the law's where the arguments, and the package variables that the reading takes, are together of bulk at most 1048576: NARROWER than '..Said'. Prove '..Said' where nothing that the law and all that it calls make is longer than what came in: it says more and counts as full. Else prove '..UptoSaid'. A law counts once. -/
mutual
def uptoBulk {H : Type} : DataW H → Nat
  | .lit (.string bytes) => bytes.length + 1
  | .lit _ => 1
  | .nil => 1
  | .ptr d => uptoBulk d + 1
  | .slice elems spare => uptoBulkAll elems + uptoBulkAll spare + 1
  | .agg parts => uptoBulkAll parts + 1
  | .iface _ d => uptoBulk d + 1
  | .map entries => uptoBulkEntries entries + 1
  | .held _ => 1
def uptoBulkAll {H : Type} : List (DataW H) → Nat
  | [] => 0
  | d :: r => uptoBulk d + uptoBulkAll r
def uptoBulkEntries {H : Type} : List (Lit × DataW H) → Nat
  | [] => 0
  | x :: r => uptoBulkEntry x + uptoBulkEntries r
def uptoBulkEntry {H : Type} : Lit × DataW H → Nat
  | (.string bytes, d) => bytes.length + uptoBulk d + 1
  | (_, d) => uptoBulk d + 1
 end
def uptoSmall : (H : Type) → List (DataW H) → Bool := fun _ ds => decide (uptoBulkAll ds ≤ 1048576)
def OpenSpec.upto (s : _root_.Go.ChangeSpec) : _root_.Go.OpenSpec := { _root_.Go.OpenSpec.ofChange s with cond := some uptoSmall }

/-- 'corrallaw8.PteModes', WHERE WHAT IT READS IS OF BULK AT MOST 1048576: true; the input reads as it did. -/
def pteModesUptoRow : OpenClaim := { program := "ythpaieglgjjbiaa", sum := "0d8ba28e0a405786db1a284c9122551932734bbb5a68594ad9f622f1b84cb358", func := "corral/corrallaw8.PteModes", spec := "pteModes", apart := false, narrowed := true }
def PteModesUptoSaid : Prop := pteModesUptoRow.holds Try.pinned (OpenSpec.upto pteModesSpec)

/-- 'corrallaw8.PteKinds', WHERE WHAT IT READS IS OF BULK AT MOST 1048576: true; the input reads as it did. -/
def pteKindsUptoRow : OpenClaim := { program := "ythpaieglgjjbiaa", sum := "0d8ba28e0a405786db1a284c9122551932734bbb5a68594ad9f622f1b84cb358", func := "corral/corrallaw8.PteKinds", spec := "pteKinds", apart := false, narrowed := true }
def PteKindsUptoSaid : Prop := pteKindsUptoRow.holds Try.pinned (OpenSpec.upto pteKindsSpec)

/-- 'corrallaw8.PteMakes', WHERE WHAT IT READS IS OF BULK AT MOST 1048576: true; the input reads as it did. -/
def pteMakesUptoRow : OpenClaim := { program := "ythpaieglgjjbiaa", sum := "0d8ba28e0a405786db1a284c9122551932734bbb5a68594ad9f622f1b84cb358", func := "corral/corrallaw8.PteMakes", spec := "pteMakes", apart := false, narrowed := true }
def PteMakesUptoSaid : Prop := pteMakesUptoRow.holds Try.pinned (OpenSpec.upto pteMakesSpec)

/-- 'corrallaw1.WordPacks', WHERE WHAT IT READS IS OF BULK AT MOST 1048576: true; the input reads as it did. -/
def wordPacksUptoRow : OpenClaim := { program := "ythpaieglgjjbiaa", sum := "0d8ba28e0a405786db1a284c9122551932734bbb5a68594ad9f622f1b84cb358", func := "corral/corrallaw1.WordPacks", spec := "wordPacks", apart := false, narrowed := true }
def WordPacksUptoSaid : Prop := wordPacksUptoRow.holds Try.pinned (OpenSpec.upto wordPacksSpec)

/-- 'corrallaw1.WordBits', WHERE WHAT IT READS IS OF BULK AT MOST 1048576: true; the input reads as it did. -/
def wordBitsUptoRow : OpenClaim := { program := "ythpaieglgjjbiaa", sum := "0d8ba28e0a405786db1a284c9122551932734bbb5a68594ad9f622f1b84cb358", func := "corral/corrallaw1.WordBits", spec := "wordBits", apart := false, narrowed := true }
def WordBitsUptoSaid : Prop := wordBitsUptoRow.holds Try.pinned (OpenSpec.upto wordBitsSpec)

/-- 'corrallaw1.WordDivides', WHERE WHAT IT READS IS OF BULK AT MOST 1048576: true; the input reads as it did. -/
def wordDividesUptoRow : OpenClaim := { program := "ythpaieglgjjbiaa", sum := "0d8ba28e0a405786db1a284c9122551932734bbb5a68594ad9f622f1b84cb358", func := "corral/corrallaw1.WordDivides", spec := "wordDivides", apart := false, narrowed := true }
def WordDividesUptoSaid : Prop := wordDividesUptoRow.holds Try.pinned (OpenSpec.upto wordDividesSpec)

/-- 'corrallaw1.WordSigns', WHERE WHAT IT READS IS OF BULK AT MOST 1048576: true; the input reads as it did. -/
def wordSignsUptoRow : OpenClaim := { program := "ythpaieglgjjbiaa", sum := "0d8ba28e0a405786db1a284c9122551932734bbb5a68594ad9f622f1b84cb358", func := "corral/corrallaw1.WordSigns", spec := "wordSigns", apart := false, narrowed := true }
def WordSignsUptoSaid : Prop := wordSignsUptoRow.holds Try.pinned (OpenSpec.upto wordSignsSpec)

/-- 'corrallaw1.WordShifts', WHERE WHAT IT READS IS OF BULK AT MOST 1048576: true; the input reads as it did. -/
def wordShiftsUptoRow : OpenClaim := { program := "ythpaieglgjjbiaa", sum := "0d8ba28e0a405786db1a284c9122551932734bbb5a68594ad9f622f1b84cb358", func := "corral/corrallaw1.WordShifts", spec := "wordShifts", apart := false, narrowed := true }
def WordShiftsUptoSaid : Prop := wordShiftsUptoRow.holds Try.pinned (OpenSpec.upto wordShiftsSpec)

/-- 'corrallaw8.PteSays', WHERE WHAT IT READS IS OF BULK AT MOST 1048576: true; the input reads as it did. -/
def pteSaysUptoRow : OpenClaim := { program := "ythpaieglgjjbiaa", sum := "0d8ba28e0a405786db1a284c9122551932734bbb5a68594ad9f622f1b84cb358", func := "corral/corrallaw8.PteSays", spec := "pteSays", apart := false, narrowed := true }
def PteSaysUptoSaid : Prop := pteSaysUptoRow.holds Try.pinned (OpenSpec.upto pteSaysSpec)

/-- 'corrallaw1.WordSays', WHERE WHAT IT READS IS OF BULK AT MOST 1048576: true; the input reads as it did. -/
def wordSaysUptoRow : OpenClaim := { program := "ythpaieglgjjbiaa", sum := "0d8ba28e0a405786db1a284c9122551932734bbb5a68594ad9f622f1b84cb358", func := "corral/corrallaw1.WordSays", spec := "wordSays", apart := false, narrowed := true }
def WordSaysUptoSaid : Prop := wordSaysUptoRow.holds Try.pinned (OpenSpec.upto wordSaysSpec)

end Rows
end Go.Proofs.Ythpaieglgjjbiaa
