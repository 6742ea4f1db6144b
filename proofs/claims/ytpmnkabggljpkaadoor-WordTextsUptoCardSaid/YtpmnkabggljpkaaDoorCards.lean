/-
  DERIVED. GIVEN WITH THE SEED: THE CARDS: each row of YtpmnkabggljpkaaDoorRows.lean that lists a variable, with what it lists TIED to the program's text (the seventh form; the later family's looks); each row that meets fmt, with fmt's text TOLD by the authors' own Lean function (tested against real Go, not proved from fmt's source: count such statements apart). THE CARD IS WHAT COUNTS. Prove the row's statement (the work); the ties are given (YtpmnkabggljpkaaDoorTie.lean); close each card by the builder's one call (the guide's Derived/Test/ToyasCard.lean, 'card_holds'). Laid BY PROGRAM, IN A SANDBOX (cutbox-door.mjs). By AI agents, Wed Nov 11 2026. No macro, syntax, notation, axiom, sorry.
-/
import Derived.Test.YtpmnkabggljpkaaDoorRows
import GoSem.ClaimSeven
namespace Go.Proofs.YtpmnkabggljpkaaDoor
namespace Rows

/-- THE TIED CARD OF 'tendrillaw01.WordBits'. -/
def wordBitsCard : Claim7 := { stood := { row := wordBitsRow, standIns := [], harness := (true, "8cf8ff94f1c31fdee5df42623d146574046784f0ef16d077862ba0a54b39bb24"), looks := true }, kinds := [], alts := [], laidByText := true, laidKinds := [.data, .data, .data], laidTests := true, laidLooks := .later }
def WordBitsCardSaid : Prop := Claim7.holds Tryd.pinned (.plain (OpenSpec.ofChange wordBitsSpec)) wordBitsCard

/-- THE TIED CARD OF 'tendrillaw01.WordPacks'. -/
def wordPacksCard : Claim7 := { stood := { row := wordPacksRow, standIns := [], harness := (true, "8cf8ff94f1c31fdee5df42623d146574046784f0ef16d077862ba0a54b39bb24"), looks := true }, kinds := [], alts := [], laidByText := true, laidKinds := [.data, .data, .data], laidTests := true, laidLooks := .later }
def WordPacksCardSaid : Prop := Claim7.holds Tryd.pinned (.plain (OpenSpec.ofChange wordPacksSpec)) wordPacksCard

/-- THE TIED CARD OF 'tendrillaw01.WordBack'. -/
def wordBackCard : Claim7 := { stood := { row := wordBackRow, standIns := [], harness := (true, "8cf8ff94f1c31fdee5df42623d146574046784f0ef16d077862ba0a54b39bb24"), looks := true }, kinds := [], alts := [], laidByText := true, laidKinds := [.data, .data, .data], laidTests := true, laidLooks := .later }
def WordBackCardSaid : Prop := Claim7.holds Tryd.pinned (.plain (OpenSpec.ofChange wordBackSpec)) wordBackCard

/-- THE TIED CARD OF 'tendrillaw01.WordParts'. -/
def wordPartsCard : Claim7 := { stood := { row := wordPartsRow, standIns := [], harness := (true, "8cf8ff94f1c31fdee5df42623d146574046784f0ef16d077862ba0a54b39bb24"), looks := true }, kinds := [], alts := [], laidByText := true, laidKinds := [.data, .data, .data], laidTests := true, laidLooks := .later }
def WordPartsCardSaid : Prop := Claim7.holds Tryd.pinned (.plain (OpenSpec.ofChange wordPartsSpec)) wordPartsCard

/-- THE TIED CARD OF 'tendrillaw01.WordHeads'. -/
def wordHeadsCard : Claim7 := { stood := { row := wordHeadsRow, standIns := [], harness := (true, "8cf8ff94f1c31fdee5df42623d146574046784f0ef16d077862ba0a54b39bb24"), looks := true }, kinds := [], alts := [], laidByText := true, laidKinds := [.data, .data, .data], laidTests := true, laidLooks := .later }
def WordHeadsCardSaid : Prop := Claim7.holds Tryd.pinned (.plain (OpenSpec.ofChange wordHeadsSpec)) wordHeadsCard

/-- THE TIED CARD OF 'tendrillaw01.WordTexts'. -/
def wordTextsCard : Claim7 := { stood := { row := wordTextsRow, standIns := [], harness := (true, "8cf8ff94f1c31fdee5df42623d146574046784f0ef16d077862ba0a54b39bb24"), looks := true }, kinds := [], alts := [], laidByText := true, laidKinds := [.data, .data, .data, .sentinel, .sentinel], laidTests := true, laidLooks := .later }
def WordTextsCardSaid : Prop := Claim7.holds Tryd.pinned (.plain (OpenSpec.ofChange wordTextsSpec)) wordTextsCard

/-- THE TIED CARD OF 'tendrillaw01.WordThere'. -/
def wordThereCard : Claim7 := { stood := { row := wordThereRow, standIns := [], harness := (true, "8cf8ff94f1c31fdee5df42623d146574046784f0ef16d077862ba0a54b39bb24"), looks := true }, kinds := [], alts := [], laidByText := true, laidKinds := [.data, .data, .data, .sentinel, .sentinel], laidTests := true, laidLooks := .later }
def WordThereCardSaid : Prop := Claim7.holds Tryd.pinned (.plain (OpenSpec.ofChange wordThereSpec)) wordThereCard

/-- THE SECOND FORM's CARD OF 'tendrillaw01.WordBits'. -/
def wordBitsUptoCard : Claim7 := { stood := { row := wordBitsUptoRow, standIns := [], harness := (true, "8cf8ff94f1c31fdee5df42623d146574046784f0ef16d077862ba0a54b39bb24"), looks := true }, kinds := [], alts := [], laidByText := true, laidKinds := [.data, .data, .data], laidTests := true, laidLooks := .later }
def WordBitsUptoCardSaid : Prop := Claim7.holds Tryd.pinned (.plain (OpenSpec.upto wordBitsSpec)) wordBitsUptoCard

/-- THE SECOND FORM's CARD OF 'tendrillaw01.WordPacks'. -/
def wordPacksUptoCard : Claim7 := { stood := { row := wordPacksUptoRow, standIns := [], harness := (true, "8cf8ff94f1c31fdee5df42623d146574046784f0ef16d077862ba0a54b39bb24"), looks := true }, kinds := [], alts := [], laidByText := true, laidKinds := [.data, .data, .data], laidTests := true, laidLooks := .later }
def WordPacksUptoCardSaid : Prop := Claim7.holds Tryd.pinned (.plain (OpenSpec.upto wordPacksSpec)) wordPacksUptoCard

/-- THE SECOND FORM's CARD OF 'tendrillaw01.WordBack'. -/
def wordBackUptoCard : Claim7 := { stood := { row := wordBackUptoRow, standIns := [], harness := (true, "8cf8ff94f1c31fdee5df42623d146574046784f0ef16d077862ba0a54b39bb24"), looks := true }, kinds := [], alts := [], laidByText := true, laidKinds := [.data, .data, .data], laidTests := true, laidLooks := .later }
def WordBackUptoCardSaid : Prop := Claim7.holds Tryd.pinned (.plain (OpenSpec.upto wordBackSpec)) wordBackUptoCard

/-- THE SECOND FORM's CARD OF 'tendrillaw01.WordParts'. -/
def wordPartsUptoCard : Claim7 := { stood := { row := wordPartsUptoRow, standIns := [], harness := (true, "8cf8ff94f1c31fdee5df42623d146574046784f0ef16d077862ba0a54b39bb24"), looks := true }, kinds := [], alts := [], laidByText := true, laidKinds := [.data, .data, .data], laidTests := true, laidLooks := .later }
def WordPartsUptoCardSaid : Prop := Claim7.holds Tryd.pinned (.plain (OpenSpec.upto wordPartsSpec)) wordPartsUptoCard

/-- THE SECOND FORM's CARD OF 'tendrillaw01.WordHeads'. -/
def wordHeadsUptoCard : Claim7 := { stood := { row := wordHeadsUptoRow, standIns := [], harness := (true, "8cf8ff94f1c31fdee5df42623d146574046784f0ef16d077862ba0a54b39bb24"), looks := true }, kinds := [], alts := [], laidByText := true, laidKinds := [.data, .data, .data], laidTests := true, laidLooks := .later }
def WordHeadsUptoCardSaid : Prop := Claim7.holds Tryd.pinned (.plain (OpenSpec.upto wordHeadsSpec)) wordHeadsUptoCard

/-- THE SECOND FORM's CARD OF 'tendrillaw01.WordTexts'. -/
def wordTextsUptoCard : Claim7 := { stood := { row := wordTextsUptoRow, standIns := [], harness := (true, "8cf8ff94f1c31fdee5df42623d146574046784f0ef16d077862ba0a54b39bb24"), looks := true }, kinds := [], alts := [], laidByText := true, laidKinds := [.data, .data, .data, .sentinel, .sentinel], laidTests := true, laidLooks := .later }
def WordTextsUptoCardSaid : Prop := Claim7.holds Tryd.pinned (.plain (OpenSpec.upto wordTextsSpec)) wordTextsUptoCard

/-- THE SECOND FORM's CARD OF 'tendrillaw01.WordThere'. -/
def wordThereUptoCard : Claim7 := { stood := { row := wordThereUptoRow, standIns := [], harness := (true, "8cf8ff94f1c31fdee5df42623d146574046784f0ef16d077862ba0a54b39bb24"), looks := true }, kinds := [], alts := [], laidByText := true, laidKinds := [.data, .data, .data, .sentinel, .sentinel], laidTests := true, laidLooks := .later }
def WordThereUptoCardSaid : Prop := Claim7.holds Tryd.pinned (.plain (OpenSpec.upto wordThereSpec)) wordThereUptoCard
end Rows
end Go.Proofs.YtpmnkabggljpkaaDoor
