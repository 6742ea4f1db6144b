/-
  DERIVED. GIVEN WITH THE SEED: THE CARDS: each row of YtciniaabmjoiiaaDoorRows.lean that lists a variable, with what it lists TIED to the program's text (the seventh form; the later family's looks); each row that meets fmt, with fmt's text TOLD by the authors' own Lean function (tested against real Go, not proved from fmt's source: count such statements apart). THE CARD IS WHAT COUNTS. Prove the row's statement (the work); the ties are given (YtciniaabmjoiiaaDoorTie.lean); close each card by the builder's one call (the guide's Derived/Test/ToyasCard.lean, 'card_holds'). Laid BY PROGRAM, IN A SANDBOX (cutbox-door.mjs). By AI agents, Wed Nov 11 2026. No macro, syntax, notation, axiom, sorry.
-/
import Derived.Test.YtciniaabmjoiiaaDoorRows
import GoSem.ClaimSeven
namespace Go.Proofs.YtciniaabmjoiiaaDoor
namespace Rows

/-- THE TIED CARD OF 'tendrillaw05.BisimStable'. -/
def bisimStableCard : Claim7 := { stood := { row := bisimStableRow, standIns := [], harness := (true, "85768b915d939a4dcd3bf47fe7bfe95cb3623257a6336c7276347a350d364005"), looks := true }, kinds := [], alts := [], laidByText := true, laidKinds := [.data, .data, .data], laidTests := true, laidLooks := .later }
def BisimStableCardSaid : Prop := Claim7.holds Tryd.pinned (.plain (OpenSpec.ofChange bisimStableSpec)) bisimStableCard

/-- THE TIED CARD OF 'tendrillaw05.BisimClasses'. -/
def bisimClassesCard : Claim7 := { stood := { row := bisimClassesRow, standIns := [], harness := (true, "85768b915d939a4dcd3bf47fe7bfe95cb3623257a6336c7276347a350d364005"), looks := true }, kinds := [], alts := [], laidByText := true, laidKinds := [.data, .data, .data], laidTests := true, laidLooks := .later }
def BisimClassesCardSaid : Prop := Claim7.holds Tryd.pinned (.plain (OpenSpec.ofChange bisimClassesSpec)) bisimClassesCard

/-- THE TIED CARD OF 'tendrillaw05.BisimWays'. -/
def bisimWaysCard : Claim7 := { stood := { row := bisimWaysRow, standIns := [], harness := (true, "85768b915d939a4dcd3bf47fe7bfe95cb3623257a6336c7276347a350d364005"), looks := true }, kinds := [], alts := [], laidByText := true, laidKinds := [.data, .data, .data], laidTests := true, laidLooks := .later }
def BisimWaysCardSaid : Prop := Claim7.holds Tryd.pinned (.plain (OpenSpec.ofChange bisimWaysSpec)) bisimWaysCard

/-- THE TIED CARD OF 'tendrillaw05.BisimLeast'. -/
def bisimLeastCard : Claim7 := { stood := { row := bisimLeastRow, standIns := [], harness := (true, "85768b915d939a4dcd3bf47fe7bfe95cb3623257a6336c7276347a350d364005"), looks := true }, kinds := [], alts := [], laidByText := true, laidKinds := [.data, .data, .data], laidTests := true, laidLooks := .later }
def BisimLeastCardSaid : Prop := Claim7.holds Tryd.pinned (.plain (OpenSpec.ofChange bisimLeastSpec)) bisimLeastCard

/-- THE TIED CARD OF 'tendrillaw05.BisimAlike'. -/
def bisimAlikeCard : Claim7 := { stood := { row := bisimAlikeRow, standIns := [], harness := (true, "85768b915d939a4dcd3bf47fe7bfe95cb3623257a6336c7276347a350d364005"), looks := true }, kinds := [], alts := [], laidByText := true, laidKinds := [.data, .data, .data], laidTests := true, laidLooks := .later }
def BisimAlikeCardSaid : Prop := Claim7.holds Tryd.pinned (.plain (OpenSpec.ofChange bisimAlikeSpec)) bisimAlikeCard

/-- THE TIED CARD OF 'tendrillaw05.BisimSplits'. -/
def bisimSplitsCard : Claim7 := { stood := { row := bisimSplitsRow, standIns := [], harness := (true, "85768b915d939a4dcd3bf47fe7bfe95cb3623257a6336c7276347a350d364005"), looks := true }, kinds := [], alts := [], laidByText := true, laidKinds := [.data, .data, .data], laidTests := true, laidLooks := .later }
def BisimSplitsCardSaid : Prop := Claim7.holds Tryd.pinned (.plain (OpenSpec.ofChange bisimSplitsSpec)) bisimSplitsCard

/-- THE TIED CARD OF 'tendrillaw05.BisimOwns'. -/
def bisimOwnsCard : Claim7 := { stood := { row := bisimOwnsRow, standIns := [], harness := (true, "85768b915d939a4dcd3bf47fe7bfe95cb3623257a6336c7276347a350d364005"), looks := true }, kinds := [], alts := [], laidByText := true, laidKinds := [.data, .data, .data], laidTests := true, laidLooks := .later }
def BisimOwnsCardSaid : Prop := Claim7.holds Tryd.pinned (.plain (OpenSpec.ofChange bisimOwnsSpec)) bisimOwnsCard

/-- THE TIED CARD OF 'tendrillaw05.BisimCopies'. -/
def bisimCopiesCard : Claim7 := { stood := { row := bisimCopiesRow, standIns := [], harness := (true, "85768b915d939a4dcd3bf47fe7bfe95cb3623257a6336c7276347a350d364005"), looks := true }, kinds := [], alts := [], laidByText := true, laidKinds := [.data, .data, .data], laidTests := true, laidLooks := .later }
def BisimCopiesCardSaid : Prop := Claim7.holds Tryd.pinned (.plain (OpenSpec.ofChange bisimCopiesSpec)) bisimCopiesCard

/-- THE SECOND FORM's CARD OF 'tendrillaw05.BisimStable'. -/
def bisimStableUptoCard : Claim7 := { stood := { row := bisimStableUptoRow, standIns := [], harness := (true, "85768b915d939a4dcd3bf47fe7bfe95cb3623257a6336c7276347a350d364005"), looks := true }, kinds := [], alts := [], laidByText := true, laidKinds := [.data, .data, .data], laidTests := true, laidLooks := .later }
def BisimStableUptoCardSaid : Prop := Claim7.holds Tryd.pinned (.plain (OpenSpec.upto bisimStableSpec)) bisimStableUptoCard

/-- THE SECOND FORM's CARD OF 'tendrillaw05.BisimClasses'. -/
def bisimClassesUptoCard : Claim7 := { stood := { row := bisimClassesUptoRow, standIns := [], harness := (true, "85768b915d939a4dcd3bf47fe7bfe95cb3623257a6336c7276347a350d364005"), looks := true }, kinds := [], alts := [], laidByText := true, laidKinds := [.data, .data, .data], laidTests := true, laidLooks := .later }
def BisimClassesUptoCardSaid : Prop := Claim7.holds Tryd.pinned (.plain (OpenSpec.upto bisimClassesSpec)) bisimClassesUptoCard

/-- THE SECOND FORM's CARD OF 'tendrillaw05.BisimWays'. -/
def bisimWaysUptoCard : Claim7 := { stood := { row := bisimWaysUptoRow, standIns := [], harness := (true, "85768b915d939a4dcd3bf47fe7bfe95cb3623257a6336c7276347a350d364005"), looks := true }, kinds := [], alts := [], laidByText := true, laidKinds := [.data, .data, .data], laidTests := true, laidLooks := .later }
def BisimWaysUptoCardSaid : Prop := Claim7.holds Tryd.pinned (.plain (OpenSpec.upto bisimWaysSpec)) bisimWaysUptoCard

/-- THE SECOND FORM's CARD OF 'tendrillaw05.BisimLeast'. -/
def bisimLeastUptoCard : Claim7 := { stood := { row := bisimLeastUptoRow, standIns := [], harness := (true, "85768b915d939a4dcd3bf47fe7bfe95cb3623257a6336c7276347a350d364005"), looks := true }, kinds := [], alts := [], laidByText := true, laidKinds := [.data, .data, .data], laidTests := true, laidLooks := .later }
def BisimLeastUptoCardSaid : Prop := Claim7.holds Tryd.pinned (.plain (OpenSpec.upto bisimLeastSpec)) bisimLeastUptoCard

/-- THE SECOND FORM's CARD OF 'tendrillaw05.BisimAlike'. -/
def bisimAlikeUptoCard : Claim7 := { stood := { row := bisimAlikeUptoRow, standIns := [], harness := (true, "85768b915d939a4dcd3bf47fe7bfe95cb3623257a6336c7276347a350d364005"), looks := true }, kinds := [], alts := [], laidByText := true, laidKinds := [.data, .data, .data], laidTests := true, laidLooks := .later }
def BisimAlikeUptoCardSaid : Prop := Claim7.holds Tryd.pinned (.plain (OpenSpec.upto bisimAlikeSpec)) bisimAlikeUptoCard

/-- THE SECOND FORM's CARD OF 'tendrillaw05.BisimSplits'. -/
def bisimSplitsUptoCard : Claim7 := { stood := { row := bisimSplitsUptoRow, standIns := [], harness := (true, "85768b915d939a4dcd3bf47fe7bfe95cb3623257a6336c7276347a350d364005"), looks := true }, kinds := [], alts := [], laidByText := true, laidKinds := [.data, .data, .data], laidTests := true, laidLooks := .later }
def BisimSplitsUptoCardSaid : Prop := Claim7.holds Tryd.pinned (.plain (OpenSpec.upto bisimSplitsSpec)) bisimSplitsUptoCard

/-- THE SECOND FORM's CARD OF 'tendrillaw05.BisimOwns'. -/
def bisimOwnsUptoCard : Claim7 := { stood := { row := bisimOwnsUptoRow, standIns := [], harness := (true, "85768b915d939a4dcd3bf47fe7bfe95cb3623257a6336c7276347a350d364005"), looks := true }, kinds := [], alts := [], laidByText := true, laidKinds := [.data, .data, .data], laidTests := true, laidLooks := .later }
def BisimOwnsUptoCardSaid : Prop := Claim7.holds Tryd.pinned (.plain (OpenSpec.upto bisimOwnsSpec)) bisimOwnsUptoCard

/-- THE SECOND FORM's CARD OF 'tendrillaw05.BisimCopies'. -/
def bisimCopiesUptoCard : Claim7 := { stood := { row := bisimCopiesUptoRow, standIns := [], harness := (true, "85768b915d939a4dcd3bf47fe7bfe95cb3623257a6336c7276347a350d364005"), looks := true }, kinds := [], alts := [], laidByText := true, laidKinds := [.data, .data, .data], laidTests := true, laidLooks := .later }
def BisimCopiesUptoCardSaid : Prop := Claim7.holds Tryd.pinned (.plain (OpenSpec.upto bisimCopiesSpec)) bisimCopiesUptoCard
end Rows
end Go.Proofs.YtciniaabmjoiiaaDoor
