/-
  DERIVED. GIVEN WITH THE SEED: THE CARDS: each row of YtehpdnkachbakaaGreatDoorRows.lean that lists a variable, with what it lists TIED to the program's text (the seventh form; the later family's looks); each row that meets fmt, with fmt's text TOLD by the authors' own Lean function (tested against real Go, not proved from fmt's source: count such statements apart). THE CARD IS WHAT COUNTS. Prove the row's statement (the work); the ties are given (YtehpdnkachbakaaGreatDoorTie.lean); close each card by the builder's one call (the guide's Derived/Test/ToyasCard.lean, 'card_holds'). Laid BY PROGRAM, IN A SANDBOX (cutbox-door.mjs). By AI agents, Wed Nov 11 2026. No macro, syntax, notation, axiom, sorry.
-/
import Derived.Test.YtehpdnkachbakaaGreatDoorRows
import GoSem.ClaimSeven
namespace Go.Proofs.YtehpdnkachbakaaGreatDoor
namespace Rows

/-- THE TIED CARD OF 'tidegatelaw15.ScopeUsable'. -/
def scopeUsableCard : Claim7 := { stood := { row := scopeUsableRow, standIns := [], harness := (true, "33f1184321a8f260c3aa9f8f4c225b56fb63f1604cd500cce8023e6b616bc977"), looks := false }, kinds := [], alts := [], laidByText := true, laidKinds := [.data, .data], laidTests := true, laidLooks := .later }
def ScopeUsableCardSaid : Prop := Claim7.holds Tryz.pinned (.plain (OpenSpec.ofChange scopeUsableSpec)) scopeUsableCard

/-- THE TIED CARD OF 'tidegatelaw15.ScopeChecks'. -/
def scopeChecksCard : Claim7 := { stood := { row := scopeChecksRow, standIns := [], harness := (true, "33f1184321a8f260c3aa9f8f4c225b56fb63f1604cd500cce8023e6b616bc977"), looks := false }, kinds := [], alts := [], laidByText := true, laidKinds := [.data, .data], laidTests := true, laidLooks := .later }
def ScopeChecksCardSaid : Prop := Claim7.holds Tryz.pinned (.plain (OpenSpec.ofChange scopeChecksSpec)) scopeChecksCard

/-- THE TIED CARD OF 'tidegatelaw15.ScopeReturns'. -/
def scopeReturnsCard : Claim7 := { stood := { row := scopeReturnsRow, standIns := [], harness := (true, "33f1184321a8f260c3aa9f8f4c225b56fb63f1604cd500cce8023e6b616bc977"), looks := false }, kinds := [], alts := [], laidByText := true, laidKinds := [.data, .data], laidTests := true, laidLooks := .later }
def ScopeReturnsCardSaid : Prop := Claim7.holds Tryz.pinned (.plain (OpenSpec.ofChange scopeReturnsSpec)) scopeReturnsCard

/-- THE SECOND FORM's CARD OF 'tidegatelaw15.ScopeUsable'. -/
def scopeUsableUptoCard : Claim7 := { stood := { row := scopeUsableUptoRow, standIns := [], harness := (true, "33f1184321a8f260c3aa9f8f4c225b56fb63f1604cd500cce8023e6b616bc977"), looks := false }, kinds := [], alts := [], laidByText := true, laidKinds := [.data, .data], laidTests := true, laidLooks := .later }
def ScopeUsableUptoCardSaid : Prop := Claim7.holds Tryz.pinned (.plain (OpenSpec.upto scopeUsableSpec)) scopeUsableUptoCard

/-- THE SECOND FORM's CARD OF 'tidegatelaw15.ScopeChecks'. -/
def scopeChecksUptoCard : Claim7 := { stood := { row := scopeChecksUptoRow, standIns := [], harness := (true, "33f1184321a8f260c3aa9f8f4c225b56fb63f1604cd500cce8023e6b616bc977"), looks := false }, kinds := [], alts := [], laidByText := true, laidKinds := [.data, .data], laidTests := true, laidLooks := .later }
def ScopeChecksUptoCardSaid : Prop := Claim7.holds Tryz.pinned (.plain (OpenSpec.upto scopeChecksSpec)) scopeChecksUptoCard

/-- THE SECOND FORM's CARD OF 'tidegatelaw15.ScopeReturns'. -/
def scopeReturnsUptoCard : Claim7 := { stood := { row := scopeReturnsUptoRow, standIns := [], harness := (true, "33f1184321a8f260c3aa9f8f4c225b56fb63f1604cd500cce8023e6b616bc977"), looks := false }, kinds := [], alts := [], laidByText := true, laidKinds := [.data, .data], laidTests := true, laidLooks := .later }
def ScopeReturnsUptoCardSaid : Prop := Claim7.holds Tryz.pinned (.plain (OpenSpec.upto scopeReturnsSpec)) scopeReturnsUptoCard
end Rows
end Go.Proofs.YtehpdnkachbakaaGreatDoor
