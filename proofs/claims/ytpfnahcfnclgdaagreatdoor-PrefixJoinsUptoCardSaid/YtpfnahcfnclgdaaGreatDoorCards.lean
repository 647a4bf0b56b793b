/-
  DERIVED. GIVEN WITH THE SEED: THE CARDS: each row of YtpfnahcfnclgdaaGreatDoorRows.lean that lists a variable, with what it lists TIED to the program's text (the seventh form; the later family's looks); each row that meets fmt, with fmt's text TOLD by the authors' own Lean function (tested against real Go, not proved from fmt's source: count such statements apart). THE CARD IS WHAT COUNTS. Prove the row's statement (the work); the ties are given (YtpfnahcfnclgdaaGreatDoorTie.lean); close each card by the builder's one call (the guide's Derived/Test/ToyasCard.lean, 'card_holds'). Laid BY PROGRAM, IN A SANDBOX (cutbox-door.mjs). By AI agents, Wed Nov 11 2026. No macro, syntax, notation, axiom, sorry.
-/
import Derived.Test.YtpfnahcfnclgdaaGreatDoorRows
import GoSem.ClaimSeven
namespace Go.Proofs.YtpfnahcfnclgdaaGreatDoor
namespace Rows

/-- THE TIED CARD OF 'tidegatelaw32.PrefixSplits'. -/
def prefixSplitsCard : Claim7 := { stood := { row := prefixSplitsRow, standIns := [], harness := (true, "129652ce9940d6f697b1413a68394a3752cc02b5af56cad5ce80f68d97b86237"), looks := false }, kinds := [], alts := [], laidByText := true, laidKinds := [.data], laidTests := true, laidLooks := .later }
def PrefixSplitsCardSaid : Prop := Claim7.holds Tryz.pinned (.plain (OpenSpec.ofChange prefixSplitsSpec)) prefixSplitsCard

/-- THE TIED CARD OF 'tidegatelaw32.PrefixBuilds'. -/
def prefixBuildsCard : Claim7 := { stood := { row := prefixBuildsRow, standIns := [], harness := (true, "129652ce9940d6f697b1413a68394a3752cc02b5af56cad5ce80f68d97b86237"), looks := false }, kinds := [], alts := [], laidByText := true, laidKinds := [.data], laidTests := true, laidLooks := .later }
def PrefixBuildsCardSaid : Prop := Claim7.holds Tryz.pinned (.plain (OpenSpec.ofChange prefixBuildsSpec)) prefixBuildsCard

/-- THE TIED CARD OF 'tidegatelaw32.PrefixChecks'. -/
def prefixChecksCard : Claim7 := { stood := { row := prefixChecksRow, standIns := [], harness := (true, "129652ce9940d6f697b1413a68394a3752cc02b5af56cad5ce80f68d97b86237"), looks := false }, kinds := [], alts := [], laidByText := true, laidKinds := [.data], laidTests := true, laidLooks := .later }
def PrefixChecksCardSaid : Prop := Claim7.holds Tryz.pinned (.plain (OpenSpec.ofChange prefixChecksSpec)) prefixChecksCard

/-- THE TIED CARD OF 'tidegatelaw32.PrefixJoins'. -/
def prefixJoinsCard : Claim7 := { stood := { row := prefixJoinsRow, standIns := [], harness := (true, "129652ce9940d6f697b1413a68394a3752cc02b5af56cad5ce80f68d97b86237"), looks := false }, kinds := [], alts := [], laidByText := true, laidKinds := [.data], laidTests := true, laidLooks := .later }
def PrefixJoinsCardSaid : Prop := Claim7.holds Tryz.pinned (.plain (OpenSpec.ofChange prefixJoinsSpec)) prefixJoinsCard

/-- THE TIED CARD OF 'tidegatelaw32.PrefixRepeats'. -/
def prefixRepeatsCard : Claim7 := { stood := { row := prefixRepeatsRow, standIns := [], harness := (true, "129652ce9940d6f697b1413a68394a3752cc02b5af56cad5ce80f68d97b86237"), looks := false }, kinds := [], alts := [], laidByText := true, laidKinds := [.data], laidTests := true, laidLooks := .later }
def PrefixRepeatsCardSaid : Prop := Claim7.holds Tryz.pinned (.plain (OpenSpec.ofChange prefixRepeatsSpec)) prefixRepeatsCard

/-- THE TIED CARD OF 'tidegatelaw32.PrefixFollows'. -/
def prefixFollowsCard : Claim7 := { stood := { row := prefixFollowsRow, standIns := [], harness := (true, "129652ce9940d6f697b1413a68394a3752cc02b5af56cad5ce80f68d97b86237"), looks := false }, kinds := [], alts := [], laidByText := true, laidKinds := [.data], laidTests := true, laidLooks := .later }
def PrefixFollowsCardSaid : Prop := Claim7.holds Tryz.pinned (.plain (OpenSpec.ofChange prefixFollowsSpec)) prefixFollowsCard

/-- THE TIED CARD OF 'tidegatelaw32.PrefixLeads'. -/
def prefixLeadsCard : Claim7 := { stood := { row := prefixLeadsRow, standIns := [], harness := (true, "129652ce9940d6f697b1413a68394a3752cc02b5af56cad5ce80f68d97b86237"), looks := false }, kinds := [], alts := [], laidByText := true, laidKinds := [.data], laidTests := true, laidLooks := .later }
def PrefixLeadsCardSaid : Prop := Claim7.holds Tryz.pinned (.plain (OpenSpec.ofChange prefixLeadsSpec)) prefixLeadsCard

/-- THE TIED CARD OF 'tidegatelaw32.PrefixReaches'. -/
def prefixReachesCard : Claim7 := { stood := { row := prefixReachesRow, standIns := [], harness := (true, "129652ce9940d6f697b1413a68394a3752cc02b5af56cad5ce80f68d97b86237"), looks := false }, kinds := [], alts := [], laidByText := true, laidKinds := [.data], laidTests := true, laidLooks := .later }
def PrefixReachesCardSaid : Prop := Claim7.holds Tryz.pinned (.plain (OpenSpec.ofChange prefixReachesSpec)) prefixReachesCard

/-- THE SECOND FORM's CARD OF 'tidegatelaw32.PrefixSplits'. -/
def prefixSplitsUptoCard : Claim7 := { stood := { row := prefixSplitsUptoRow, standIns := [], harness := (true, "129652ce9940d6f697b1413a68394a3752cc02b5af56cad5ce80f68d97b86237"), looks := false }, kinds := [], alts := [], laidByText := true, laidKinds := [.data], laidTests := true, laidLooks := .later }
def PrefixSplitsUptoCardSaid : Prop := Claim7.holds Tryz.pinned (.plain (OpenSpec.upto prefixSplitsSpec)) prefixSplitsUptoCard

/-- THE SECOND FORM's CARD OF 'tidegatelaw32.PrefixBuilds'. -/
def prefixBuildsUptoCard : Claim7 := { stood := { row := prefixBuildsUptoRow, standIns := [], harness := (true, "129652ce9940d6f697b1413a68394a3752cc02b5af56cad5ce80f68d97b86237"), looks := false }, kinds := [], alts := [], laidByText := true, laidKinds := [.data], laidTests := true, laidLooks := .later }
def PrefixBuildsUptoCardSaid : Prop := Claim7.holds Tryz.pinned (.plain (OpenSpec.upto prefixBuildsSpec)) prefixBuildsUptoCard

/-- THE SECOND FORM's CARD OF 'tidegatelaw32.PrefixChecks'. -/
def prefixChecksUptoCard : Claim7 := { stood := { row := prefixChecksUptoRow, standIns := [], harness := (true, "129652ce9940d6f697b1413a68394a3752cc02b5af56cad5ce80f68d97b86237"), looks := false }, kinds := [], alts := [], laidByText := true, laidKinds := [.data], laidTests := true, laidLooks := .later }
def PrefixChecksUptoCardSaid : Prop := Claim7.holds Tryz.pinned (.plain (OpenSpec.upto prefixChecksSpec)) prefixChecksUptoCard

/-- THE SECOND FORM's CARD OF 'tidegatelaw32.PrefixJoins'. -/
def prefixJoinsUptoCard : Claim7 := { stood := { row := prefixJoinsUptoRow, standIns := [], harness := (true, "129652ce9940d6f697b1413a68394a3752cc02b5af56cad5ce80f68d97b86237"), looks := false }, kinds := [], alts := [], laidByText := true, laidKinds := [.data], laidTests := true, laidLooks := .later }
def PrefixJoinsUptoCardSaid : Prop := Claim7.holds Tryz.pinned (.plain (OpenSpec.upto prefixJoinsSpec)) prefixJoinsUptoCard

/-- THE SECOND FORM's CARD OF 'tidegatelaw32.PrefixRepeats'. -/
def prefixRepeatsUptoCard : Claim7 := { stood := { row := prefixRepeatsUptoRow, standIns := [], harness := (true, "129652ce9940d6f697b1413a68394a3752cc02b5af56cad5ce80f68d97b86237"), looks := false }, kinds := [], alts := [], laidByText := true, laidKinds := [.data], laidTests := true, laidLooks := .later }
def PrefixRepeatsUptoCardSaid : Prop := Claim7.holds Tryz.pinned (.plain (OpenSpec.upto prefixRepeatsSpec)) prefixRepeatsUptoCard

/-- THE SECOND FORM's CARD OF 'tidegatelaw32.PrefixFollows'. -/
def prefixFollowsUptoCard : Claim7 := { stood := { row := prefixFollowsUptoRow, standIns := [], harness := (true, "129652ce9940d6f697b1413a68394a3752cc02b5af56cad5ce80f68d97b86237"), looks := false }, kinds := [], alts := [], laidByText := true, laidKinds := [.data], laidTests := true, laidLooks := .later }
def PrefixFollowsUptoCardSaid : Prop := Claim7.holds Tryz.pinned (.plain (OpenSpec.upto prefixFollowsSpec)) prefixFollowsUptoCard

/-- THE SECOND FORM's CARD OF 'tidegatelaw32.PrefixLeads'. -/
def prefixLeadsUptoCard : Claim7 := { stood := { row := prefixLeadsUptoRow, standIns := [], harness := (true, "129652ce9940d6f697b1413a68394a3752cc02b5af56cad5ce80f68d97b86237"), looks := false }, kinds := [], alts := [], laidByText := true, laidKinds := [.data], laidTests := true, laidLooks := .later }
def PrefixLeadsUptoCardSaid : Prop := Claim7.holds Tryz.pinned (.plain (OpenSpec.upto prefixLeadsSpec)) prefixLeadsUptoCard

/-- THE SECOND FORM's CARD OF 'tidegatelaw32.PrefixReaches'. -/
def prefixReachesUptoCard : Claim7 := { stood := { row := prefixReachesUptoRow, standIns := [], harness := (true, "129652ce9940d6f697b1413a68394a3752cc02b5af56cad5ce80f68d97b86237"), looks := false }, kinds := [], alts := [], laidByText := true, laidKinds := [.data], laidTests := true, laidLooks := .later }
def PrefixReachesUptoCardSaid : Prop := Claim7.holds Tryz.pinned (.plain (OpenSpec.upto prefixReachesSpec)) prefixReachesUptoCard
end Rows
end Go.Proofs.YtpfnahcfnclgdaaGreatDoor
