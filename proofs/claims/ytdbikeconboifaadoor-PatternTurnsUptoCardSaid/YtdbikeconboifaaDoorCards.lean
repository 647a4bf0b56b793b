/-
  DERIVED. GIVEN WITH THE SEED: THE CARDS: each row of YtdbikeconboifaaDoorRows.lean that lists a variable, with what it lists TIED to the program's text (the seventh form; the later family's looks); each row that meets fmt, with fmt's text TOLD by the authors' own Lean function (tested against real Go, not proved from fmt's source: count such statements apart). THE CARD IS WHAT COUNTS. Prove the row's statement (the work); the ties are given (YtdbikeconboifaaDoorTie.lean); close each card by the builder's one call (the guide's Derived/Test/ToyasCard.lean, 'card_holds'). Laid BY PROGRAM, IN A SANDBOX (cutbox-door.mjs). By AI agents, Wed Nov 11 2026. No macro, syntax, notation, axiom, sorry.
-/
import Derived.Test.YtdbikeconboifaaDoorRows
import GoSem.ClaimSeven
namespace Go.Proofs.YtdbikeconboifaaDoor
namespace Rows

/-- THE TIED CARD OF 'tidegatelaw09.PatternNodes'. -/
def patternNodesCard : Claim7 := { stood := { row := patternNodesRow, standIns := [], harness := (true, "cdccc9282f2d39f1cfac7d0eb7129d33cd28808fcace6d6ea9e248e24c647847"), looks := false }, kinds := [], alts := [], laidByText := true, laidKinds := [.data], laidTests := true, laidLooks := .later }
def PatternNodesCardSaid : Prop := Claim7.holds Tryd.pinned (.plain (OpenSpec.ofChange patternNodesSpec)) patternNodesCard

/-- THE TIED CARD OF 'tidegatelaw09.PatternSurrounds'. -/
def patternSurroundsCard : Claim7 := { stood := { row := patternSurroundsRow, standIns := [], harness := (true, "cdccc9282f2d39f1cfac7d0eb7129d33cd28808fcace6d6ea9e248e24c647847"), looks := false }, kinds := [], alts := [], laidByText := true, laidKinds := [.data], laidTests := true, laidLooks := .later }
def PatternSurroundsCardSaid : Prop := Claim7.holds Tryd.pinned (.plain (OpenSpec.ofChange patternSurroundsSpec)) patternSurroundsCard

/-- THE TIED CARD OF 'tidegatelaw09.PatternUnfolds'. -/
def patternUnfoldsCard : Claim7 := { stood := { row := patternUnfoldsRow, standIns := [], harness := (true, "cdccc9282f2d39f1cfac7d0eb7129d33cd28808fcace6d6ea9e248e24c647847"), looks := false }, kinds := [], alts := [], laidByText := true, laidKinds := [.data], laidTests := true, laidLooks := .later }
def PatternUnfoldsCardSaid : Prop := Claim7.holds Tryd.pinned (.plain (OpenSpec.ofChange patternUnfoldsSpec)) patternUnfoldsCard

/-- THE TIED CARD OF 'tidegatelaw09.PatternTurns'. -/
def patternTurnsCard : Claim7 := { stood := { row := patternTurnsRow, standIns := [], harness := (true, "cdccc9282f2d39f1cfac7d0eb7129d33cd28808fcace6d6ea9e248e24c647847"), looks := false }, kinds := [], alts := [], laidByText := true, laidKinds := [.data], laidTests := true, laidLooks := .later }
def PatternTurnsCardSaid : Prop := Claim7.holds Tryd.pinned (.plain (OpenSpec.ofChange patternTurnsSpec)) patternTurnsCard

/-- THE SECOND FORM's CARD OF 'tidegatelaw09.PatternNodes'. -/
def patternNodesUptoCard : Claim7 := { stood := { row := patternNodesUptoRow, standIns := [], harness := (true, "cdccc9282f2d39f1cfac7d0eb7129d33cd28808fcace6d6ea9e248e24c647847"), looks := false }, kinds := [], alts := [], laidByText := true, laidKinds := [.data], laidTests := true, laidLooks := .later }
def PatternNodesUptoCardSaid : Prop := Claim7.holds Tryd.pinned (.plain (OpenSpec.upto patternNodesSpec)) patternNodesUptoCard

/-- THE SECOND FORM's CARD OF 'tidegatelaw09.PatternSurrounds'. -/
def patternSurroundsUptoCard : Claim7 := { stood := { row := patternSurroundsUptoRow, standIns := [], harness := (true, "cdccc9282f2d39f1cfac7d0eb7129d33cd28808fcace6d6ea9e248e24c647847"), looks := false }, kinds := [], alts := [], laidByText := true, laidKinds := [.data], laidTests := true, laidLooks := .later }
def PatternSurroundsUptoCardSaid : Prop := Claim7.holds Tryd.pinned (.plain (OpenSpec.upto patternSurroundsSpec)) patternSurroundsUptoCard

/-- THE SECOND FORM's CARD OF 'tidegatelaw09.PatternUnfolds'. -/
def patternUnfoldsUptoCard : Claim7 := { stood := { row := patternUnfoldsUptoRow, standIns := [], harness := (true, "cdccc9282f2d39f1cfac7d0eb7129d33cd28808fcace6d6ea9e248e24c647847"), looks := false }, kinds := [], alts := [], laidByText := true, laidKinds := [.data], laidTests := true, laidLooks := .later }
def PatternUnfoldsUptoCardSaid : Prop := Claim7.holds Tryd.pinned (.plain (OpenSpec.upto patternUnfoldsSpec)) patternUnfoldsUptoCard

/-- THE SECOND FORM's CARD OF 'tidegatelaw09.PatternTurns'. -/
def patternTurnsUptoCard : Claim7 := { stood := { row := patternTurnsUptoRow, standIns := [], harness := (true, "cdccc9282f2d39f1cfac7d0eb7129d33cd28808fcace6d6ea9e248e24c647847"), looks := false }, kinds := [], alts := [], laidByText := true, laidKinds := [.data], laidTests := true, laidLooks := .later }
def PatternTurnsUptoCardSaid : Prop := Claim7.holds Tryd.pinned (.plain (OpenSpec.upto patternTurnsSpec)) patternTurnsUptoCard
end Rows
end Go.Proofs.YtdbikeconboifaaDoor
