/-
  DERIVED. GIVEN WITH THE SEED: THE CARDS: each row of YtehpdnkachbakaaDoorRows.lean that lists a variable, with what it lists TIED to the program's text (the seventh form; the later family's looks); each row that meets fmt, with fmt's text TOLD by the authors' own Lean function (tested against real Go, not proved from fmt's source: count such statements apart). THE CARD IS WHAT COUNTS. Prove the row's statement (the work); the ties are given (YtehpdnkachbakaaDoorTie.lean); close each card by the builder's one call (the guide's Derived/Test/ToyasCard.lean, 'card_holds'). Laid BY PROGRAM, IN A SANDBOX (cutbox-door.mjs). By AI agents, Wed Nov 11 2026. No macro, syntax, notation, axiom, sorry.
-/
import Derived.Test.YtehpdnkachbakaaDoorRows
import GoSem.ClaimSeven
namespace Go.Proofs.YtehpdnkachbakaaDoor
namespace Rows

/-- THE TIED CARD OF 'tidegatelaw15.ScopeWraps'. -/
def scopeWrapsCard : Claim7 := { stood := { row := scopeWrapsRow, standIns := [], harness := (true, "589ad8b81f44d5aca48d0feef8afe53c30cec0facfd1bf03caef1ac63eafdf6c"), looks := false }, kinds := [], alts := [], laidByText := true, laidKinds := [.data, .data], laidTests := true, laidLooks := .later }
def ScopeWrapsCardSaid : Prop := Claim7.holds Tryd.pinned (.plain (OpenSpec.ofChange scopeWrapsSpec)) scopeWrapsCard

/-- THE TIED CARD OF 'tidegatelaw15.ScopeRepeats'. -/
def scopeRepeatsCard : Claim7 := { stood := { row := scopeRepeatsRow, standIns := [], harness := (true, "589ad8b81f44d5aca48d0feef8afe53c30cec0facfd1bf03caef1ac63eafdf6c"), looks := false }, kinds := [], alts := [], laidByText := true, laidKinds := [.data, .data], laidTests := true, laidLooks := .later }
def ScopeRepeatsCardSaid : Prop := Claim7.holds Tryd.pinned (.plain (OpenSpec.ofChange scopeRepeatsSpec)) scopeRepeatsCard

/-- THE TIED CARD OF 'tidegatelaw15.ScopeNests'. -/
def scopeNestsCard : Claim7 := { stood := { row := scopeNestsRow, standIns := [], harness := (true, "589ad8b81f44d5aca48d0feef8afe53c30cec0facfd1bf03caef1ac63eafdf6c"), looks := false }, kinds := [], alts := [], laidByText := true, laidKinds := [.data, .data], laidTests := true, laidLooks := .later }
def ScopeNestsCardSaid : Prop := Claim7.holds Tryd.pinned (.plain (OpenSpec.ofChange scopeNestsSpec)) scopeNestsCard

/-- THE TIED CARD OF 'tidegatelaw15.ScopePrecedes'. -/
def scopePrecedesCard : Claim7 := { stood := { row := scopePrecedesRow, standIns := [], harness := (true, "589ad8b81f44d5aca48d0feef8afe53c30cec0facfd1bf03caef1ac63eafdf6c"), looks := false }, kinds := [], alts := [], laidByText := true, laidKinds := [.data, .data], laidTests := true, laidLooks := .later }
def ScopePrecedesCardSaid : Prop := Claim7.holds Tryd.pinned (.plain (OpenSpec.ofChange scopePrecedesSpec)) scopePrecedesCard

/-- THE SECOND FORM's CARD OF 'tidegatelaw15.ScopeWraps'. -/
def scopeWrapsUptoCard : Claim7 := { stood := { row := scopeWrapsUptoRow, standIns := [], harness := (true, "589ad8b81f44d5aca48d0feef8afe53c30cec0facfd1bf03caef1ac63eafdf6c"), looks := false }, kinds := [], alts := [], laidByText := true, laidKinds := [.data, .data], laidTests := true, laidLooks := .later }
def ScopeWrapsUptoCardSaid : Prop := Claim7.holds Tryd.pinned (.plain (OpenSpec.upto scopeWrapsSpec)) scopeWrapsUptoCard

/-- THE SECOND FORM's CARD OF 'tidegatelaw15.ScopeRepeats'. -/
def scopeRepeatsUptoCard : Claim7 := { stood := { row := scopeRepeatsUptoRow, standIns := [], harness := (true, "589ad8b81f44d5aca48d0feef8afe53c30cec0facfd1bf03caef1ac63eafdf6c"), looks := false }, kinds := [], alts := [], laidByText := true, laidKinds := [.data, .data], laidTests := true, laidLooks := .later }
def ScopeRepeatsUptoCardSaid : Prop := Claim7.holds Tryd.pinned (.plain (OpenSpec.upto scopeRepeatsSpec)) scopeRepeatsUptoCard

/-- THE SECOND FORM's CARD OF 'tidegatelaw15.ScopeNests'. -/
def scopeNestsUptoCard : Claim7 := { stood := { row := scopeNestsUptoRow, standIns := [], harness := (true, "589ad8b81f44d5aca48d0feef8afe53c30cec0facfd1bf03caef1ac63eafdf6c"), looks := false }, kinds := [], alts := [], laidByText := true, laidKinds := [.data, .data], laidTests := true, laidLooks := .later }
def ScopeNestsUptoCardSaid : Prop := Claim7.holds Tryd.pinned (.plain (OpenSpec.upto scopeNestsSpec)) scopeNestsUptoCard

/-- THE SECOND FORM's CARD OF 'tidegatelaw15.ScopePrecedes'. -/
def scopePrecedesUptoCard : Claim7 := { stood := { row := scopePrecedesUptoRow, standIns := [], harness := (true, "589ad8b81f44d5aca48d0feef8afe53c30cec0facfd1bf03caef1ac63eafdf6c"), looks := false }, kinds := [], alts := [], laidByText := true, laidKinds := [.data, .data], laidTests := true, laidLooks := .later }
def ScopePrecedesUptoCardSaid : Prop := Claim7.holds Tryd.pinned (.plain (OpenSpec.upto scopePrecedesSpec)) scopePrecedesUptoCard
end Rows
end Go.Proofs.YtehpdnkachbakaaDoor
