/-
  DERIVED. GIVEN WITH THE SEED: THE CARDS: each row of YtgkicojmgokinaaGreatDoorRows.lean that lists a variable, with what it lists TIED to the program's text (the seventh form; the later family's looks); each row that meets fmt, with fmt's text TOLD by the authors' own Lean function (tested against real Go, not proved from fmt's source: count such statements apart). THE CARD IS WHAT COUNTS. Prove the row's statement (the work); the ties are given (YtgkicojmgokinaaGreatDoorTie.lean); close each card by the builder's one call (the guide's Derived/Test/ToyasCard.lean, 'card_holds'). Laid BY PROGRAM, IN A SANDBOX (cutbox-door.mjs). By AI agents, Wed Nov 11 2026. No macro, syntax, notation, axiom, sorry.
-/
import Derived.Test.YtgkicojmgokinaaGreatDoorRows
import GoSem.ClaimSeven
namespace Go.Proofs.YtgkicojmgokinaaGreatDoor
namespace Rows

/-- THE TIED CARD OF 'corrallaw5.AsmSays'. -/
def asmSaysCard : Claim7 := { stood := { row := asmSaysRow, standIns := [], harness := (true, "a67571bc19a2b5b1ae3230c41624e1bd2a14ad5d5704f28769ebb4e3b8d8a86f"), looks := true }, kinds := [], alts := [], laidByText := true, laidKinds := [.data, .data, .data, .data, .sentinel, .sentinel, .sentinel, .sentinel, .sentinel, .sentinel, .sentinel, .sentinel, .sentinel, .sentinel, .sentinel, .sentinel, .sentinel, .pinned], laidTests := true, laidLooks := .later }
def AsmSaysCardSaid : Prop := Claim7.holds Tryz.pinned (.plain (OpenSpec.ofChange asmSaysSpec)) asmSaysCard

/-- THE TIED CARD OF 'corrallaw5.AsmBack'. -/
def asmBackCard : Claim7 := { stood := { row := asmBackRow, standIns := [], harness := (true, "a67571bc19a2b5b1ae3230c41624e1bd2a14ad5d5704f28769ebb4e3b8d8a86f"), looks := true }, kinds := [], alts := [], laidByText := true, laidKinds := [.data, .data, .data, .data, .sentinel, .sentinel, .sentinel, .sentinel, .sentinel, .sentinel, .sentinel, .sentinel, .sentinel, .sentinel, .sentinel, .sentinel, .sentinel, .pinned], laidTests := true, laidLooks := .later }
def AsmBackCardSaid : Prop := Claim7.holds Tryz.pinned (.plain (OpenSpec.ofChange asmBackSpec)) asmBackCard

/-- THE TIED CARD OF 'corrallaw5.AsmOne'. -/
def asmOneCard : Claim7 := { stood := { row := asmOneRow, standIns := [], harness := (true, "a67571bc19a2b5b1ae3230c41624e1bd2a14ad5d5704f28769ebb4e3b8d8a86f"), looks := true }, kinds := [], alts := [], laidByText := true, laidKinds := [.data, .data, .data, .data, .sentinel, .sentinel, .sentinel, .sentinel, .sentinel, .sentinel, .sentinel, .sentinel, .sentinel, .sentinel, .sentinel, .sentinel, .sentinel, .pinned], laidTests := true, laidLooks := .later }
def AsmOneCardSaid : Prop := Claim7.holds Tryz.pinned (.plain (OpenSpec.ofChange asmOneSpec)) asmOneCard

/-- THE TIED CARD OF 'corrallaw5.AsmNumbers'. -/
def asmNumbersCard : Claim7 := { stood := { row := asmNumbersRow, standIns := [], harness := (true, "a67571bc19a2b5b1ae3230c41624e1bd2a14ad5d5704f28769ebb4e3b8d8a86f"), looks := true }, kinds := [], alts := [], laidByText := true, laidKinds := [.data, .data, .data, .data, .sentinel, .sentinel, .sentinel, .sentinel, .sentinel, .sentinel, .sentinel, .sentinel, .sentinel, .sentinel, .sentinel, .sentinel, .sentinel, .pinned], laidTests := true, laidLooks := .later }
def AsmNumbersCardSaid : Prop := Claim7.holds Tryz.pinned (.plain (OpenSpec.ofChange asmNumbersSpec)) asmNumbersCard

/-- THE TIED CARD OF 'corrallaw5.AsmFirst'. -/
def asmFirstCard : Claim7 := { stood := { row := asmFirstRow, standIns := [], harness := (true, "a67571bc19a2b5b1ae3230c41624e1bd2a14ad5d5704f28769ebb4e3b8d8a86f"), looks := true }, kinds := [], alts := [], laidByText := true, laidKinds := [.data, .data, .data, .data, .sentinel, .sentinel, .sentinel, .sentinel, .sentinel, .sentinel, .sentinel, .sentinel, .sentinel, .sentinel, .sentinel, .sentinel, .sentinel, .pinned], laidTests := true, laidLooks := .later }
def AsmFirstCardSaid : Prop := Claim7.holds Tryz.pinned (.plain (OpenSpec.ofChange asmFirstSpec)) asmFirstCard

/-- THE SECOND FORM's CARD OF 'corrallaw5.AsmSays'. -/
def asmSaysUptoCard : Claim7 := { stood := { row := asmSaysUptoRow, standIns := [], harness := (true, "a67571bc19a2b5b1ae3230c41624e1bd2a14ad5d5704f28769ebb4e3b8d8a86f"), looks := true }, kinds := [], alts := [], laidByText := true, laidKinds := [.data, .data, .data, .data, .sentinel, .sentinel, .sentinel, .sentinel, .sentinel, .sentinel, .sentinel, .sentinel, .sentinel, .sentinel, .sentinel, .sentinel, .sentinel, .pinned], laidTests := true, laidLooks := .later }
def AsmSaysUptoCardSaid : Prop := Claim7.holds Tryz.pinned (.plain (OpenSpec.upto asmSaysSpec)) asmSaysUptoCard

/-- THE SECOND FORM's CARD OF 'corrallaw5.AsmBack'. -/
def asmBackUptoCard : Claim7 := { stood := { row := asmBackUptoRow, standIns := [], harness := (true, "a67571bc19a2b5b1ae3230c41624e1bd2a14ad5d5704f28769ebb4e3b8d8a86f"), looks := true }, kinds := [], alts := [], laidByText := true, laidKinds := [.data, .data, .data, .data, .sentinel, .sentinel, .sentinel, .sentinel, .sentinel, .sentinel, .sentinel, .sentinel, .sentinel, .sentinel, .sentinel, .sentinel, .sentinel, .pinned], laidTests := true, laidLooks := .later }
def AsmBackUptoCardSaid : Prop := Claim7.holds Tryz.pinned (.plain (OpenSpec.upto asmBackSpec)) asmBackUptoCard

/-- THE SECOND FORM's CARD OF 'corrallaw5.AsmOne'. -/
def asmOneUptoCard : Claim7 := { stood := { row := asmOneUptoRow, standIns := [], harness := (true, "a67571bc19a2b5b1ae3230c41624e1bd2a14ad5d5704f28769ebb4e3b8d8a86f"), looks := true }, kinds := [], alts := [], laidByText := true, laidKinds := [.data, .data, .data, .data, .sentinel, .sentinel, .sentinel, .sentinel, .sentinel, .sentinel, .sentinel, .sentinel, .sentinel, .sentinel, .sentinel, .sentinel, .sentinel, .pinned], laidTests := true, laidLooks := .later }
def AsmOneUptoCardSaid : Prop := Claim7.holds Tryz.pinned (.plain (OpenSpec.upto asmOneSpec)) asmOneUptoCard

/-- THE SECOND FORM's CARD OF 'corrallaw5.AsmNumbers'. -/
def asmNumbersUptoCard : Claim7 := { stood := { row := asmNumbersUptoRow, standIns := [], harness := (true, "a67571bc19a2b5b1ae3230c41624e1bd2a14ad5d5704f28769ebb4e3b8d8a86f"), looks := true }, kinds := [], alts := [], laidByText := true, laidKinds := [.data, .data, .data, .data, .sentinel, .sentinel, .sentinel, .sentinel, .sentinel, .sentinel, .sentinel, .sentinel, .sentinel, .sentinel, .sentinel, .sentinel, .sentinel, .pinned], laidTests := true, laidLooks := .later }
def AsmNumbersUptoCardSaid : Prop := Claim7.holds Tryz.pinned (.plain (OpenSpec.upto asmNumbersSpec)) asmNumbersUptoCard

/-- THE SECOND FORM's CARD OF 'corrallaw5.AsmFirst'. -/
def asmFirstUptoCard : Claim7 := { stood := { row := asmFirstUptoRow, standIns := [], harness := (true, "a67571bc19a2b5b1ae3230c41624e1bd2a14ad5d5704f28769ebb4e3b8d8a86f"), looks := true }, kinds := [], alts := [], laidByText := true, laidKinds := [.data, .data, .data, .data, .sentinel, .sentinel, .sentinel, .sentinel, .sentinel, .sentinel, .sentinel, .sentinel, .sentinel, .sentinel, .sentinel, .sentinel, .sentinel, .pinned], laidTests := true, laidLooks := .later }
def AsmFirstUptoCardSaid : Prop := Claim7.holds Tryz.pinned (.plain (OpenSpec.upto asmFirstSpec)) asmFirstUptoCard
end Rows
end Go.Proofs.YtgkicojmgokinaaGreatDoor
