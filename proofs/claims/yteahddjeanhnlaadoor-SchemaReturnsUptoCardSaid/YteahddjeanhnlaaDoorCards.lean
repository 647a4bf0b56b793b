/-
  DERIVED. GIVEN WITH THE SEED: THE CARDS: each row of YteahddjeanhnlaaDoorRows.lean that lists a variable, with what it lists TIED to the program's text (the seventh form; the later family's looks); each row that meets fmt, with fmt's text TOLD by the authors' own Lean function (tested against real Go, not proved from fmt's source: count such statements apart). THE CARD IS WHAT COUNTS. Prove the row's statement (the work); the ties are given (YteahddjeanhnlaaDoorTie.lean); close each card by the builder's one call (the guide's Derived/Test/ToyasCard.lean, 'card_holds'). Laid BY PROGRAM, IN A SANDBOX (cutbox-door.mjs). By AI agents, Wed Nov 11 2026. No macro, syntax, notation, axiom, sorry.
-/
import Derived.Test.YteahddjeanhnlaaDoorRows
import GoSem.ClaimSeven
namespace Go.Proofs.YteahddjeanhnlaaDoor
namespace Rows

/-- THE TIED CARD OF 'tidegatelaw03.SchemaChecks'. -/
def schemaChecksCard : Claim7 := { stood := { row := schemaChecksRow, standIns := [], harness := (true, "90c850c04730f9057733d05be09bc02f31b0ca881fe02acb88216e9a283a09c8"), looks := false }, kinds := [], alts := [], laidByText := true, laidKinds := [.data, .data, .pinned], laidTests := true, laidLooks := .later }
def SchemaChecksCardSaid : Prop := Claim7.holds Tryd.pinned (.plain (OpenSpec.ofChange schemaChecksSpec)) schemaChecksCard

/-- THE TIED CARD OF 'tidegatelaw03.SchemaParses'. -/
def schemaParsesCard : Claim7 := { stood := { row := schemaParsesRow, standIns := [], harness := (true, "90c850c04730f9057733d05be09bc02f31b0ca881fe02acb88216e9a283a09c8"), looks := false }, kinds := [], alts := [], laidByText := true, laidKinds := [.data, .data, .data, .pinned], laidTests := true, laidLooks := .later }
def SchemaParsesCardSaid : Prop := Claim7.holds Tryd.pinned (.plain (OpenSpec.ofChange schemaParsesSpec)) schemaParsesCard

/-- THE TIED CARD OF 'tidegatelaw03.SchemaFormats'. -/
def schemaFormatsCard : Claim7 := { stood := { row := schemaFormatsRow, standIns := [], harness := (true, "90c850c04730f9057733d05be09bc02f31b0ca881fe02acb88216e9a283a09c8"), looks := false }, kinds := [], alts := [], laidByText := true, laidKinds := [.data, .data, .data, .pinned], laidTests := true, laidLooks := .later }
def SchemaFormatsCardSaid : Prop := Claim7.holds Tryd.pinned (.plain (OpenSpec.ofChange schemaFormatsSpec)) schemaFormatsCard

/-- THE TIED CARD OF 'tidegatelaw03.SchemaKeeps'. -/
def schemaKeepsCard : Claim7 := { stood := { row := schemaKeepsRow, standIns := [], harness := (true, "90c850c04730f9057733d05be09bc02f31b0ca881fe02acb88216e9a283a09c8"), looks := false }, kinds := [], alts := [], laidByText := true, laidKinds := [.data, .data, .pinned], laidTests := true, laidLooks := .later }
def SchemaKeepsCardSaid : Prop := Claim7.holds Tryd.pinned (.plain (OpenSpec.ofChange schemaKeepsSpec)) schemaKeepsCard

/-- THE TIED CARD OF 'tidegatelaw03.SchemaFinds'. -/
def schemaFindsCard : Claim7 := { stood := { row := schemaFindsRow, standIns := [], harness := (true, "90c850c04730f9057733d05be09bc02f31b0ca881fe02acb88216e9a283a09c8"), looks := false }, kinds := [], alts := [], laidByText := true, laidKinds := [.data, .data, .pinned], laidTests := true, laidLooks := .later }
def SchemaFindsCardSaid : Prop := Claim7.holds Tryd.pinned (.plain (OpenSpec.ofChange schemaFindsSpec)) schemaFindsCard

/-- THE TIED CARD OF 'tidegatelaw03.SchemaNames'. -/
def schemaNamesCard : Claim7 := { stood := { row := schemaNamesRow, standIns := [], harness := (true, "90c850c04730f9057733d05be09bc02f31b0ca881fe02acb88216e9a283a09c8"), looks := false }, kinds := [], alts := [], laidByText := true, laidKinds := [.data, .data, .pinned], laidTests := true, laidLooks := .later }
def SchemaNamesCardSaid : Prop := Claim7.holds Tryd.pinned (.plain (OpenSpec.ofChange schemaNamesSpec)) schemaNamesCard

/-- THE TIED CARD OF 'tidegatelaw03.SchemaComposes'. -/
def schemaComposesCard : Claim7 := { stood := { row := schemaComposesRow, standIns := [], harness := (true, "90c850c04730f9057733d05be09bc02f31b0ca881fe02acb88216e9a283a09c8"), looks := false }, kinds := [], alts := [], laidByText := true, laidKinds := [.data, .data, .pinned], laidTests := true, laidLooks := .later }
def SchemaComposesCardSaid : Prop := Claim7.holds Tryd.pinned (.plain (OpenSpec.ofChange schemaComposesSpec)) schemaComposesCard

/-- THE TIED CARD OF 'tidegatelaw03.SchemaReturns'. -/
def schemaReturnsCard : Claim7 := { stood := { row := schemaReturnsRow, standIns := [], harness := (true, "90c850c04730f9057733d05be09bc02f31b0ca881fe02acb88216e9a283a09c8"), looks := false }, kinds := [], alts := [], laidByText := true, laidKinds := [.data, .data, .pinned], laidTests := true, laidLooks := .later }
def SchemaReturnsCardSaid : Prop := Claim7.holds Tryd.pinned (.plain (OpenSpec.ofChange schemaReturnsSpec)) schemaReturnsCard

/-- THE SECOND FORM's CARD OF 'tidegatelaw03.SchemaChecks'. -/
def schemaChecksUptoCard : Claim7 := { stood := { row := schemaChecksUptoRow, standIns := [], harness := (true, "90c850c04730f9057733d05be09bc02f31b0ca881fe02acb88216e9a283a09c8"), looks := false }, kinds := [], alts := [], laidByText := true, laidKinds := [.data, .data, .pinned], laidTests := true, laidLooks := .later }
def SchemaChecksUptoCardSaid : Prop := Claim7.holds Tryd.pinned (.plain (OpenSpec.upto schemaChecksSpec)) schemaChecksUptoCard

/-- THE SECOND FORM's CARD OF 'tidegatelaw03.SchemaParses'. -/
def schemaParsesUptoCard : Claim7 := { stood := { row := schemaParsesUptoRow, standIns := [], harness := (true, "90c850c04730f9057733d05be09bc02f31b0ca881fe02acb88216e9a283a09c8"), looks := false }, kinds := [], alts := [], laidByText := true, laidKinds := [.data, .data, .data, .pinned], laidTests := true, laidLooks := .later }
def SchemaParsesUptoCardSaid : Prop := Claim7.holds Tryd.pinned (.plain (OpenSpec.upto schemaParsesSpec)) schemaParsesUptoCard

/-- THE SECOND FORM's CARD OF 'tidegatelaw03.SchemaFormats'. -/
def schemaFormatsUptoCard : Claim7 := { stood := { row := schemaFormatsUptoRow, standIns := [], harness := (true, "90c850c04730f9057733d05be09bc02f31b0ca881fe02acb88216e9a283a09c8"), looks := false }, kinds := [], alts := [], laidByText := true, laidKinds := [.data, .data, .data, .pinned], laidTests := true, laidLooks := .later }
def SchemaFormatsUptoCardSaid : Prop := Claim7.holds Tryd.pinned (.plain (OpenSpec.upto schemaFormatsSpec)) schemaFormatsUptoCard

/-- THE SECOND FORM's CARD OF 'tidegatelaw03.SchemaKeeps'. -/
def schemaKeepsUptoCard : Claim7 := { stood := { row := schemaKeepsUptoRow, standIns := [], harness := (true, "90c850c04730f9057733d05be09bc02f31b0ca881fe02acb88216e9a283a09c8"), looks := false }, kinds := [], alts := [], laidByText := true, laidKinds := [.data, .data, .pinned], laidTests := true, laidLooks := .later }
def SchemaKeepsUptoCardSaid : Prop := Claim7.holds Tryd.pinned (.plain (OpenSpec.upto schemaKeepsSpec)) schemaKeepsUptoCard

/-- THE SECOND FORM's CARD OF 'tidegatelaw03.SchemaFinds'. -/
def schemaFindsUptoCard : Claim7 := { stood := { row := schemaFindsUptoRow, standIns := [], harness := (true, "90c850c04730f9057733d05be09bc02f31b0ca881fe02acb88216e9a283a09c8"), looks := false }, kinds := [], alts := [], laidByText := true, laidKinds := [.data, .data, .pinned], laidTests := true, laidLooks := .later }
def SchemaFindsUptoCardSaid : Prop := Claim7.holds Tryd.pinned (.plain (OpenSpec.upto schemaFindsSpec)) schemaFindsUptoCard

/-- THE SECOND FORM's CARD OF 'tidegatelaw03.SchemaNames'. -/
def schemaNamesUptoCard : Claim7 := { stood := { row := schemaNamesUptoRow, standIns := [], harness := (true, "90c850c04730f9057733d05be09bc02f31b0ca881fe02acb88216e9a283a09c8"), looks := false }, kinds := [], alts := [], laidByText := true, laidKinds := [.data, .data, .pinned], laidTests := true, laidLooks := .later }
def SchemaNamesUptoCardSaid : Prop := Claim7.holds Tryd.pinned (.plain (OpenSpec.upto schemaNamesSpec)) schemaNamesUptoCard

/-- THE SECOND FORM's CARD OF 'tidegatelaw03.SchemaComposes'. -/
def schemaComposesUptoCard : Claim7 := { stood := { row := schemaComposesUptoRow, standIns := [], harness := (true, "90c850c04730f9057733d05be09bc02f31b0ca881fe02acb88216e9a283a09c8"), looks := false }, kinds := [], alts := [], laidByText := true, laidKinds := [.data, .data, .pinned], laidTests := true, laidLooks := .later }
def SchemaComposesUptoCardSaid : Prop := Claim7.holds Tryd.pinned (.plain (OpenSpec.upto schemaComposesSpec)) schemaComposesUptoCard

/-- THE SECOND FORM's CARD OF 'tidegatelaw03.SchemaReturns'. -/
def schemaReturnsUptoCard : Claim7 := { stood := { row := schemaReturnsUptoRow, standIns := [], harness := (true, "90c850c04730f9057733d05be09bc02f31b0ca881fe02acb88216e9a283a09c8"), looks := false }, kinds := [], alts := [], laidByText := true, laidKinds := [.data, .data, .pinned], laidTests := true, laidLooks := .later }
def SchemaReturnsUptoCardSaid : Prop := Claim7.holds Tryd.pinned (.plain (OpenSpec.upto schemaReturnsSpec)) schemaReturnsUptoCard
end Rows
end Go.Proofs.YteahddjeanhnlaaDoor
