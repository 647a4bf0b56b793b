/-
  DERIVED. GIVEN WITH THE SEED: THE CARDS: each row of YtdbikeconboifaaGreatDoorRows.lean that lists a variable, with what it lists TIED to the program's text (the seventh form; the later family's looks); each row that meets fmt, with fmt's text TOLD by the authors' own Lean function (tested against real Go, not proved from fmt's source: count such statements apart). THE CARD IS WHAT COUNTS. Prove the row's statement (the work); the ties are given (YtdbikeconboifaaGreatDoorTie.lean); close each card by the builder's one call (the guide's Derived/Test/ToyasCard.lean, 'card_holds'). Laid BY PROGRAM, IN A SANDBOX (cutbox-door.mjs). By AI agents, Wed Nov 11 2026. No macro, syntax, notation, axiom, sorry.
-/
import Derived.Test.YtdbikeconboifaaGreatDoorRows
import GoSem.ClaimSeven
namespace Go.Proofs.YtdbikeconboifaaGreatDoor
namespace Rows

/-- THE TIED CARD OF 'tidegatelaw09.PatternNumbers'. -/
def patternNumbersCard : Claim7 := { stood := { row := patternNumbersRow, standIns := [], harness := (true, "beacf4a452f752e5b82e42015796403ce0ab3c2c84f7101d925188ed2ca9e5e5"), looks := false }, kinds := [], alts := [], laidByText := true, laidKinds := [.data], laidTests := true, laidLooks := .later }
def PatternNumbersCardSaid : Prop := Claim7.holds Tryz.pinned (.plain (OpenSpec.ofChange patternNumbersSpec)) patternNumbersCard

/-- THE TIED CARD OF 'tidegatelaw09.PatternChecks'. -/
def patternChecksCard : Claim7 := { stood := { row := patternChecksRow, standIns := [], harness := (true, "beacf4a452f752e5b82e42015796403ce0ab3c2c84f7101d925188ed2ca9e5e5"), looks := false }, kinds := [], alts := [], laidByText := true, laidKinds := [.data], laidTests := true, laidLooks := .later }
def PatternChecksCardSaid : Prop := Claim7.holds Tryz.pinned (.plain (OpenSpec.ofChange patternChecksSpec)) patternChecksCard

/-- THE TIED CARD OF 'tidegatelaw09.PatternFinds'. -/
def patternFindsCard : Claim7 := { stood := { row := patternFindsRow, standIns := [], harness := (true, "beacf4a452f752e5b82e42015796403ce0ab3c2c84f7101d925188ed2ca9e5e5"), looks := false }, kinds := [], alts := [], laidByText := true, laidKinds := [.data], laidTests := true, laidLooks := .later }
def PatternFindsCardSaid : Prop := Claim7.holds Tryz.pinned (.plain (OpenSpec.ofChange patternFindsSpec)) patternFindsCard

/-- THE TIED CARD OF 'tidegatelaw09.PatternRenames'. -/
def patternRenamesCard : Claim7 := { stood := { row := patternRenamesRow, standIns := [], harness := (true, "beacf4a452f752e5b82e42015796403ce0ab3c2c84f7101d925188ed2ca9e5e5"), looks := false }, kinds := [], alts := [], laidByText := true, laidKinds := [.data], laidTests := true, laidLooks := .later }
def PatternRenamesCardSaid : Prop := Claim7.holds Tryz.pinned (.plain (OpenSpec.ofChange patternRenamesSpec)) patternRenamesCard

/-- THE SECOND FORM's CARD OF 'tidegatelaw09.PatternNumbers'. -/
def patternNumbersUptoCard : Claim7 := { stood := { row := patternNumbersUptoRow, standIns := [], harness := (true, "beacf4a452f752e5b82e42015796403ce0ab3c2c84f7101d925188ed2ca9e5e5"), looks := false }, kinds := [], alts := [], laidByText := true, laidKinds := [.data], laidTests := true, laidLooks := .later }
def PatternNumbersUptoCardSaid : Prop := Claim7.holds Tryz.pinned (.plain (OpenSpec.upto patternNumbersSpec)) patternNumbersUptoCard

/-- THE SECOND FORM's CARD OF 'tidegatelaw09.PatternChecks'. -/
def patternChecksUptoCard : Claim7 := { stood := { row := patternChecksUptoRow, standIns := [], harness := (true, "beacf4a452f752e5b82e42015796403ce0ab3c2c84f7101d925188ed2ca9e5e5"), looks := false }, kinds := [], alts := [], laidByText := true, laidKinds := [.data], laidTests := true, laidLooks := .later }
def PatternChecksUptoCardSaid : Prop := Claim7.holds Tryz.pinned (.plain (OpenSpec.upto patternChecksSpec)) patternChecksUptoCard

/-- THE SECOND FORM's CARD OF 'tidegatelaw09.PatternFinds'. -/
def patternFindsUptoCard : Claim7 := { stood := { row := patternFindsUptoRow, standIns := [], harness := (true, "beacf4a452f752e5b82e42015796403ce0ab3c2c84f7101d925188ed2ca9e5e5"), looks := false }, kinds := [], alts := [], laidByText := true, laidKinds := [.data], laidTests := true, laidLooks := .later }
def PatternFindsUptoCardSaid : Prop := Claim7.holds Tryz.pinned (.plain (OpenSpec.upto patternFindsSpec)) patternFindsUptoCard

/-- THE SECOND FORM's CARD OF 'tidegatelaw09.PatternRenames'. -/
def patternRenamesUptoCard : Claim7 := { stood := { row := patternRenamesUptoRow, standIns := [], harness := (true, "beacf4a452f752e5b82e42015796403ce0ab3c2c84f7101d925188ed2ca9e5e5"), looks := false }, kinds := [], alts := [], laidByText := true, laidKinds := [.data], laidTests := true, laidLooks := .later }
def PatternRenamesUptoCardSaid : Prop := Claim7.holds Tryz.pinned (.plain (OpenSpec.upto patternRenamesSpec)) patternRenamesUptoCard
end Rows
end Go.Proofs.YtdbikeconboifaaGreatDoor
