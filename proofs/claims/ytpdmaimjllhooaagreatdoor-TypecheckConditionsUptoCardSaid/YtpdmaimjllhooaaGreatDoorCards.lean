/-
  DERIVED. GIVEN WITH THE SEED: THE CARDS: each row of YtpdmaimjllhooaaGreatDoorRows.lean that lists a variable, with what it lists TIED to the program's text (the seventh form; the later family's looks); each row that meets fmt, with fmt's text TOLD by the authors' own Lean function (tested against real Go, not proved from fmt's source: count such statements apart). THE CARD IS WHAT COUNTS. Prove the row's statement (the work); the ties are given (YtpdmaimjllhooaaGreatDoorTie.lean); close each card by the builder's one call (the guide's Derived/Test/ToyasCard.lean, 'card_holds'). Laid BY PROGRAM, IN A SANDBOX (cutbox-door.mjs). By AI agents, Wed Nov 11 2026. No macro, syntax, notation, axiom, sorry.
-/
import Derived.Test.YtpdmaimjllhooaaGreatDoorRows
import GoSem.ClaimSeven
namespace Go.Proofs.YtpdmaimjllhooaaGreatDoor
namespace Rows

/-- THE TIED CARD OF 'tidegatelaw16.TypecheckConditions'. -/
def typecheckConditionsCard : Claim7 := { stood := { row := typecheckConditionsRow, standIns := [], harness := (true, "fd5c84a312346034c9b05afdac75755f7c0ab436bd0d20585cf3b10b639ec56d"), looks := false }, kinds := [], alts := [], laidByText := true, laidKinds := [.data, .data], laidTests := true, laidLooks := .later }
def TypecheckConditionsCardSaid : Prop := Claim7.holds Tryz.pinned (.plain (OpenSpec.ofChange typecheckConditionsSpec)) typecheckConditionsCard

/-- THE TIED CARD OF 'tidegatelaw16.TypecheckPatterns'. -/
def typecheckPatternsCard : Claim7 := { stood := { row := typecheckPatternsRow, standIns := [], harness := (true, "fd5c84a312346034c9b05afdac75755f7c0ab436bd0d20585cf3b10b639ec56d"), looks := false }, kinds := [], alts := [], laidByText := true, laidKinds := [.data, .data], laidTests := true, laidLooks := .later }
def TypecheckPatternsCardSaid : Prop := Claim7.holds Tryz.pinned (.plain (OpenSpec.ofChange typecheckPatternsSpec)) typecheckPatternsCard

/-- THE TIED CARD OF 'tidegatelaw16.TypecheckQueries'. -/
def typecheckQueriesCard : Claim7 := { stood := { row := typecheckQueriesRow, standIns := [], harness := (true, "fd5c84a312346034c9b05afdac75755f7c0ab436bd0d20585cf3b10b639ec56d"), looks := false }, kinds := [], alts := [], laidByText := true, laidKinds := [.data, .data], laidTests := true, laidLooks := .later }
def TypecheckQueriesCardSaid : Prop := Claim7.holds Tryz.pinned (.plain (OpenSpec.ofChange typecheckQueriesSpec)) typecheckQueriesCard

/-- THE TIED CARD OF 'tidegatelaw16.TypecheckWraps'. -/
def typecheckWrapsCard : Claim7 := { stood := { row := typecheckWrapsRow, standIns := [], harness := (true, "fd5c84a312346034c9b05afdac75755f7c0ab436bd0d20585cf3b10b639ec56d"), looks := false }, kinds := [], alts := [], laidByText := true, laidKinds := [.data, .data], laidTests := true, laidLooks := .later }
def TypecheckWrapsCardSaid : Prop := Claim7.holds Tryz.pinned (.plain (OpenSpec.ofChange typecheckWrapsSpec)) typecheckWrapsCard

/-- THE TIED CARD OF 'tidegatelaw16.TypecheckExtends'. -/
def typecheckExtendsCard : Claim7 := { stood := { row := typecheckExtendsRow, standIns := [], harness := (true, "fd5c84a312346034c9b05afdac75755f7c0ab436bd0d20585cf3b10b639ec56d"), looks := false }, kinds := [], alts := [], laidByText := true, laidKinds := [.data, .data], laidTests := true, laidLooks := .later }
def TypecheckExtendsCardSaid : Prop := Claim7.holds Tryz.pinned (.plain (OpenSpec.ofChange typecheckExtendsSpec)) typecheckExtendsCard

/-- THE TIED CARD OF 'tidegatelaw16.TypecheckRenames'. -/
def typecheckRenamesCard : Claim7 := { stood := { row := typecheckRenamesRow, standIns := [], harness := (true, "fd5c84a312346034c9b05afdac75755f7c0ab436bd0d20585cf3b10b639ec56d"), looks := false }, kinds := [], alts := [], laidByText := true, laidKinds := [.data, .data], laidTests := true, laidLooks := .later }
def TypecheckRenamesCardSaid : Prop := Claim7.holds Tryz.pinned (.plain (OpenSpec.ofChange typecheckRenamesSpec)) typecheckRenamesCard

/-- THE TIED CARD OF 'tidegatelaw16.TypecheckPrograms'. -/
def typecheckProgramsCard : Claim7 := { stood := { row := typecheckProgramsRow, standIns := [], harness := (true, "fd5c84a312346034c9b05afdac75755f7c0ab436bd0d20585cf3b10b639ec56d"), looks := false }, kinds := [], alts := [], laidByText := true, laidKinds := [.data, .data], laidTests := true, laidLooks := .later }
def TypecheckProgramsCardSaid : Prop := Claim7.holds Tryz.pinned (.plain (OpenSpec.ofChange typecheckProgramsSpec)) typecheckProgramsCard

/-- THE TIED CARD OF 'tidegatelaw16.TypecheckOrders'. -/
def typecheckOrdersCard : Claim7 := { stood := { row := typecheckOrdersRow, standIns := [], harness := (true, "fd5c84a312346034c9b05afdac75755f7c0ab436bd0d20585cf3b10b639ec56d"), looks := false }, kinds := [], alts := [], laidByText := true, laidKinds := [.data, .data], laidTests := true, laidLooks := .later }
def TypecheckOrdersCardSaid : Prop := Claim7.holds Tryz.pinned (.plain (OpenSpec.ofChange typecheckOrdersSpec)) typecheckOrdersCard

/-- THE SECOND FORM's CARD OF 'tidegatelaw16.TypecheckConditions'. -/
def typecheckConditionsUptoCard : Claim7 := { stood := { row := typecheckConditionsUptoRow, standIns := [], harness := (true, "fd5c84a312346034c9b05afdac75755f7c0ab436bd0d20585cf3b10b639ec56d"), looks := false }, kinds := [], alts := [], laidByText := true, laidKinds := [.data, .data], laidTests := true, laidLooks := .later }
def TypecheckConditionsUptoCardSaid : Prop := Claim7.holds Tryz.pinned (.plain (OpenSpec.upto typecheckConditionsSpec)) typecheckConditionsUptoCard

/-- THE SECOND FORM's CARD OF 'tidegatelaw16.TypecheckPatterns'. -/
def typecheckPatternsUptoCard : Claim7 := { stood := { row := typecheckPatternsUptoRow, standIns := [], harness := (true, "fd5c84a312346034c9b05afdac75755f7c0ab436bd0d20585cf3b10b639ec56d"), looks := false }, kinds := [], alts := [], laidByText := true, laidKinds := [.data, .data], laidTests := true, laidLooks := .later }
def TypecheckPatternsUptoCardSaid : Prop := Claim7.holds Tryz.pinned (.plain (OpenSpec.upto typecheckPatternsSpec)) typecheckPatternsUptoCard

/-- THE SECOND FORM's CARD OF 'tidegatelaw16.TypecheckQueries'. -/
def typecheckQueriesUptoCard : Claim7 := { stood := { row := typecheckQueriesUptoRow, standIns := [], harness := (true, "fd5c84a312346034c9b05afdac75755f7c0ab436bd0d20585cf3b10b639ec56d"), looks := false }, kinds := [], alts := [], laidByText := true, laidKinds := [.data, .data], laidTests := true, laidLooks := .later }
def TypecheckQueriesUptoCardSaid : Prop := Claim7.holds Tryz.pinned (.plain (OpenSpec.upto typecheckQueriesSpec)) typecheckQueriesUptoCard

/-- THE SECOND FORM's CARD OF 'tidegatelaw16.TypecheckWraps'. -/
def typecheckWrapsUptoCard : Claim7 := { stood := { row := typecheckWrapsUptoRow, standIns := [], harness := (true, "fd5c84a312346034c9b05afdac75755f7c0ab436bd0d20585cf3b10b639ec56d"), looks := false }, kinds := [], alts := [], laidByText := true, laidKinds := [.data, .data], laidTests := true, laidLooks := .later }
def TypecheckWrapsUptoCardSaid : Prop := Claim7.holds Tryz.pinned (.plain (OpenSpec.upto typecheckWrapsSpec)) typecheckWrapsUptoCard

/-- THE SECOND FORM's CARD OF 'tidegatelaw16.TypecheckExtends'. -/
def typecheckExtendsUptoCard : Claim7 := { stood := { row := typecheckExtendsUptoRow, standIns := [], harness := (true, "fd5c84a312346034c9b05afdac75755f7c0ab436bd0d20585cf3b10b639ec56d"), looks := false }, kinds := [], alts := [], laidByText := true, laidKinds := [.data, .data], laidTests := true, laidLooks := .later }
def TypecheckExtendsUptoCardSaid : Prop := Claim7.holds Tryz.pinned (.plain (OpenSpec.upto typecheckExtendsSpec)) typecheckExtendsUptoCard

/-- THE SECOND FORM's CARD OF 'tidegatelaw16.TypecheckRenames'. -/
def typecheckRenamesUptoCard : Claim7 := { stood := { row := typecheckRenamesUptoRow, standIns := [], harness := (true, "fd5c84a312346034c9b05afdac75755f7c0ab436bd0d20585cf3b10b639ec56d"), looks := false }, kinds := [], alts := [], laidByText := true, laidKinds := [.data, .data], laidTests := true, laidLooks := .later }
def TypecheckRenamesUptoCardSaid : Prop := Claim7.holds Tryz.pinned (.plain (OpenSpec.upto typecheckRenamesSpec)) typecheckRenamesUptoCard

/-- THE SECOND FORM's CARD OF 'tidegatelaw16.TypecheckPrograms'. -/
def typecheckProgramsUptoCard : Claim7 := { stood := { row := typecheckProgramsUptoRow, standIns := [], harness := (true, "fd5c84a312346034c9b05afdac75755f7c0ab436bd0d20585cf3b10b639ec56d"), looks := false }, kinds := [], alts := [], laidByText := true, laidKinds := [.data, .data], laidTests := true, laidLooks := .later }
def TypecheckProgramsUptoCardSaid : Prop := Claim7.holds Tryz.pinned (.plain (OpenSpec.upto typecheckProgramsSpec)) typecheckProgramsUptoCard

/-- THE SECOND FORM's CARD OF 'tidegatelaw16.TypecheckOrders'. -/
def typecheckOrdersUptoCard : Claim7 := { stood := { row := typecheckOrdersUptoRow, standIns := [], harness := (true, "fd5c84a312346034c9b05afdac75755f7c0ab436bd0d20585cf3b10b639ec56d"), looks := false }, kinds := [], alts := [], laidByText := true, laidKinds := [.data, .data], laidTests := true, laidLooks := .later }
def TypecheckOrdersUptoCardSaid : Prop := Claim7.holds Tryz.pinned (.plain (OpenSpec.upto typecheckOrdersSpec)) typecheckOrdersUptoCard
end Rows
end Go.Proofs.YtpdmaimjllhooaaGreatDoor
