/-
  NARROWER THAN 'FOR EVERY INPUT', by the rows' own cells (each row's printed sentence says how): SchemaChecks: laid · SchemaParses: laid · SchemaFormats: laid · SchemaKeeps: laid · SchemaFinds: laid · SchemaNames: laid · SchemaComposes: laid · SchemaReturns: laid.
  DERIVED. THE GIVEN ROWS OF THIS SEAT. 8 by the template 'for every input the law returns true; each argument reads behind the call as it read before'; 0 by the template 'total and deterministic' (their statements: YteahddjeanhnlaaDoorTotals.lean).
  GIVEN WITH THE SEED: the statements are not yours to turn. If you find one false, say at which input.
  Laid BY PROGRAM, IN A SANDBOX (cutbox-rows.mjs): the forced cells as the released guide's own fill.sh prints them over the translation 88a2918c14df74f7… (all of the seat's roots in one cut). By AI agents, Wed Nov 11 2026. No macro, syntax, notation, axiom, sorry.
-/
import Derived.Test.YteahddjeanhnlaaDoorChecked
import GoSem.PinnedTables
import GoSem.Claim
import GoSem.ClaimJoined
import GoSem.ClaimMapViews
import Derived.JoinedTies
import Derived.KernelRfl
namespace Go.Proofs.YteahddjeanhnlaaDoor
/- THE CELL 'sum', in the pinned program and in every row, IS THE sha256 OF THE DUMP (.gsa) THAT YteahddjeanhnlaaDoorProg.lean LOADS. Nothing in Lean hashes anything: it is a label: what it is worth is what the hold of that sum in a sandbox is worth. -/
noncomputable def Tryd.pinned : Pinned := { name := "yteahddjeanhnlaadoor", sum := "88a2918c14df74f707156bb1ba944583950dbfd8c2adeaac7bbbacf6b3989e96", checked := Tryd.checked }
namespace Rows
def none {H : Type} : Left H := { results := [], args := [] }

/- WHAT THE LISTED PACKAGE-LEVEL VARIABLES READ AS WHEN THE CALL BEGINS. Each datum BY PROGRAM (the guide's laid-datum.mjs) off the statement by which the dump's own 'gosem.cut.vars' lays the variable. In a bare row this is a premise. The card (YteahddjeanhnlaaDoorCards.lean) ties it to the program's text. -/
def laid_unicode_utf8_acceptRanges {H : Type} : DataW H := .agg [.agg [.lit (.int .u8 128), .lit (.int .u8 191)], .agg [.lit (.int .u8 160), .lit (.int .u8 191)], .agg [.lit (.int .u8 128), .lit (.int .u8 159)], .agg [.lit (.int .u8 144), .lit (.int .u8 191)], .agg [.lit (.int .u8 128), .lit (.int .u8 143)], .agg [.lit (.int .u8 0), .lit (.int .u8 0)], .agg [.lit (.int .u8 0), .lit (.int .u8 0)], .agg [.lit (.int .u8 0), .lit (.int .u8 0)], .agg [.lit (.int .u8 0), .lit (.int .u8 0)], .agg [.lit (.int .u8 0), .lit (.int .u8 0)], .agg [.lit (.int .u8 0), .lit (.int .u8 0)], .agg [.lit (.int .u8 0), .lit (.int .u8 0)], .agg [.lit (.int .u8 0), .lit (.int .u8 0)], .agg [.lit (.int .u8 0), .lit (.int .u8 0)], .agg [.lit (.int .u8 0), .lit (.int .u8 0)], .agg [.lit (.int .u8 0), .lit (.int .u8 0)]]
def laid_tidegate_schema_words {H : Type} : DataW H := .agg [.lit (.string [105, 110, 116]), .lit (.string [98, 111, 111, 108]), .lit (.string [115, 116, 114, 105, 110, 103])]
/-- One of Go's own tables, pinned by name: the form's constant. -/
def laid_unicode_utf8_first : DataW Unit := Go.Pinned.utf8First
def laid_tidegate_tidegateref03_kinds {H : Type} : DataW H := .slice [.lit (.string [105, 110, 116]), .lit (.string [98, 111, 111, 108]), .lit (.string [115, 116, 114, 105, 110, 103])] []

/-- 'tidegatelaw03.SchemaChecks': WHATEVER THE INPUT: true; the input reads as it did. -/
def schemaChecksSpec : ChangeSpec := { name := "schemaChecks", fn := fun _ => fun
  | [d1, d2] => { results := [.lit (.bool true)], args := [d1, d2] }
  | _ => none }
def schemaChecksRow : OpenClaim := { program := "yteahddjeanhnlaadoor", sum := "88a2918c14df74f707156bb1ba944583950dbfd8c2adeaac7bbbacf6b3989e96", func := "tidegate/tidegatelaw03.SchemaChecks", spec := "schemaChecks", inPlace := ["internal/bytealg.CountString", "internal/bytealg.IndexByteString", "internal/bytealg.IndexString", "internal/abi.NoEscape"], unfollowed := true, recurses := true, named := ["unicode/utf8.first", "unicode/utf8.acceptRanges", "internal/bytealg.MaxLen", "tidegate/schema.words"], apart := false, laid := [("unicode/utf8.acceptRanges", laid_unicode_utf8_acceptRanges), ("tidegate/schema.words", laid_tidegate_schema_words), ("unicode/utf8.first", laid_unicode_utf8_first)] }
def SchemaChecksSaid : Prop := schemaChecksRow.holds Tryd.pinned (OpenSpec.ofChange schemaChecksSpec)

/-- ITS FALSE NEIGHBOUR: 'it returns false'. Refute it at one input. -/
def schemaChecksWrong : ChangeSpec := { name := "schemaChecks", fn := fun _ => fun
  | [d1, d2] => { results := [.lit (.bool false)], args := [d1, d2] }
  | _ => none }
def SchemaChecksWrongFalsely : Prop := schemaChecksRow.holds Tryd.pinned (OpenSpec.ofChange schemaChecksWrong)

/-- 'tidegatelaw03.SchemaParses': WHATEVER THE INPUT: true; the input reads as it did. -/
def schemaParsesSpec : ChangeSpec := { name := "schemaParses", fn := fun _ => fun
  | [d] => { results := [.lit (.bool true)], args := [d] }
  | _ => none }
def schemaParsesRow : OpenClaim := { program := "yteahddjeanhnlaadoor", sum := "88a2918c14df74f707156bb1ba944583950dbfd8c2adeaac7bbbacf6b3989e96", func := "tidegate/tidegatelaw03.SchemaParses", spec := "schemaParses", inPlace := ["internal/bytealg.CountString", "internal/bytealg.IndexByteString", "internal/bytealg.IndexString", "internal/abi.NoEscape"], unfollowed := true, recurses := true, named := ["unicode/utf8.first", "unicode/utf8.acceptRanges", "internal/bytealg.MaxLen", "tidegate/schema.words", "tidegate/tidegateref03.kinds"], apart := false, laid := [("tidegate/tidegateref03.kinds", laid_tidegate_tidegateref03_kinds), ("unicode/utf8.acceptRanges", laid_unicode_utf8_acceptRanges), ("tidegate/schema.words", laid_tidegate_schema_words), ("unicode/utf8.first", laid_unicode_utf8_first)] }
def SchemaParsesSaid : Prop := schemaParsesRow.holds Tryd.pinned (OpenSpec.ofChange schemaParsesSpec)

/-- ITS FALSE NEIGHBOUR: 'it returns false'. Refute it at one input. -/
def schemaParsesWrong : ChangeSpec := { name := "schemaParses", fn := fun _ => fun
  | [d] => { results := [.lit (.bool false)], args := [d] }
  | _ => none }
def SchemaParsesWrongFalsely : Prop := schemaParsesRow.holds Tryd.pinned (OpenSpec.ofChange schemaParsesWrong)

/-- 'tidegatelaw03.SchemaFormats': WHATEVER THE INPUT: true; the input reads as it did. -/
def schemaFormatsSpec : ChangeSpec := { name := "schemaFormats", fn := fun _ => fun
  | [d1, d2, d3] => { results := [.lit (.bool true)], args := [d1, d2, d3] }
  | _ => none }
def schemaFormatsRow : OpenClaim := { program := "yteahddjeanhnlaadoor", sum := "88a2918c14df74f707156bb1ba944583950dbfd8c2adeaac7bbbacf6b3989e96", func := "tidegate/tidegatelaw03.SchemaFormats", spec := "schemaFormats", inPlace := ["internal/bytealg.CountString", "internal/bytealg.IndexByteString", "internal/bytealg.IndexString", "internal/abi.NoEscape"], unfollowed := true, recurses := true, named := ["unicode/utf8.first", "unicode/utf8.acceptRanges", "internal/bytealg.MaxLen", "tidegate/schema.words", "tidegate/tidegateref03.kinds"], apart := false, laid := [("tidegate/tidegateref03.kinds", laid_tidegate_tidegateref03_kinds), ("unicode/utf8.acceptRanges", laid_unicode_utf8_acceptRanges), ("tidegate/schema.words", laid_tidegate_schema_words), ("unicode/utf8.first", laid_unicode_utf8_first)] }
def SchemaFormatsSaid : Prop := schemaFormatsRow.holds Tryd.pinned (OpenSpec.ofChange schemaFormatsSpec)

/-- ITS FALSE NEIGHBOUR: 'it returns false'. Refute it at one input. -/
def schemaFormatsWrong : ChangeSpec := { name := "schemaFormats", fn := fun _ => fun
  | [d1, d2, d3] => { results := [.lit (.bool false)], args := [d1, d2, d3] }
  | _ => none }
def SchemaFormatsWrongFalsely : Prop := schemaFormatsRow.holds Tryd.pinned (OpenSpec.ofChange schemaFormatsWrong)

/-- 'tidegatelaw03.SchemaKeeps': WHATEVER THE INPUT: true; the input reads as it did. -/
def schemaKeepsSpec : ChangeSpec := { name := "schemaKeeps", fn := fun _ => fun
  | [d] => { results := [.lit (.bool true)], args := [d] }
  | _ => none }
def schemaKeepsRow : OpenClaim := { program := "yteahddjeanhnlaadoor", sum := "88a2918c14df74f707156bb1ba944583950dbfd8c2adeaac7bbbacf6b3989e96", func := "tidegate/tidegatelaw03.SchemaKeeps", spec := "schemaKeeps", inPlace := ["internal/bytealg.CountString", "internal/bytealg.IndexByteString", "internal/bytealg.IndexString", "internal/abi.NoEscape"], unfollowed := true, recurses := true, named := ["unicode/utf8.first", "unicode/utf8.acceptRanges", "internal/bytealg.MaxLen", "tidegate/schema.words"], apart := false, laid := [("unicode/utf8.acceptRanges", laid_unicode_utf8_acceptRanges), ("tidegate/schema.words", laid_tidegate_schema_words), ("unicode/utf8.first", laid_unicode_utf8_first)] }
def SchemaKeepsSaid : Prop := schemaKeepsRow.holds Tryd.pinned (OpenSpec.ofChange schemaKeepsSpec)

/-- ITS FALSE NEIGHBOUR: 'it returns false'. Refute it at one input. -/
def schemaKeepsWrong : ChangeSpec := { name := "schemaKeeps", fn := fun _ => fun
  | [d] => { results := [.lit (.bool false)], args := [d] }
  | _ => none }
def SchemaKeepsWrongFalsely : Prop := schemaKeepsRow.holds Tryd.pinned (OpenSpec.ofChange schemaKeepsWrong)

/-- 'tidegatelaw03.SchemaFinds': WHATEVER THE INPUT: true; the input reads as it did. -/
def schemaFindsSpec : ChangeSpec := { name := "schemaFinds", fn := fun _ => fun
  | [d1, d2] => { results := [.lit (.bool true)], args := [d1, d2] }
  | _ => none }
def schemaFindsRow : OpenClaim := { program := "yteahddjeanhnlaadoor", sum := "88a2918c14df74f707156bb1ba944583950dbfd8c2adeaac7bbbacf6b3989e96", func := "tidegate/tidegatelaw03.SchemaFinds", spec := "schemaFinds", inPlace := ["internal/bytealg.CountString", "internal/bytealg.IndexByteString", "internal/bytealg.IndexString", "internal/abi.NoEscape"], unfollowed := true, recurses := true, named := ["unicode/utf8.first", "unicode/utf8.acceptRanges", "internal/bytealg.MaxLen", "tidegate/schema.words"], apart := false, laid := [("unicode/utf8.acceptRanges", laid_unicode_utf8_acceptRanges), ("tidegate/schema.words", laid_tidegate_schema_words), ("unicode/utf8.first", laid_unicode_utf8_first)] }
def SchemaFindsSaid : Prop := schemaFindsRow.holds Tryd.pinned (OpenSpec.ofChange schemaFindsSpec)

/-- ITS FALSE NEIGHBOUR: 'it returns false'. Refute it at one input. -/
def schemaFindsWrong : ChangeSpec := { name := "schemaFinds", fn := fun _ => fun
  | [d1, d2] => { results := [.lit (.bool false)], args := [d1, d2] }
  | _ => none }
def SchemaFindsWrongFalsely : Prop := schemaFindsRow.holds Tryd.pinned (OpenSpec.ofChange schemaFindsWrong)

/-- 'tidegatelaw03.SchemaNames': WHATEVER THE INPUT: true; the input reads as it did. -/
def schemaNamesSpec : ChangeSpec := { name := "schemaNames", fn := fun _ => fun
  | [d1, d2] => { results := [.lit (.bool true)], args := [d1, d2] }
  | _ => none }
def schemaNamesRow : OpenClaim := { program := "yteahddjeanhnlaadoor", sum := "88a2918c14df74f707156bb1ba944583950dbfd8c2adeaac7bbbacf6b3989e96", func := "tidegate/tidegatelaw03.SchemaNames", spec := "schemaNames", inPlace := ["internal/bytealg.CountString", "internal/bytealg.IndexByteString", "internal/bytealg.IndexString", "internal/abi.NoEscape"], unfollowed := true, recurses := true, named := ["unicode/utf8.first", "unicode/utf8.acceptRanges", "internal/bytealg.MaxLen", "tidegate/schema.words"], apart := false, laid := [("unicode/utf8.acceptRanges", laid_unicode_utf8_acceptRanges), ("tidegate/schema.words", laid_tidegate_schema_words), ("unicode/utf8.first", laid_unicode_utf8_first)] }
def SchemaNamesSaid : Prop := schemaNamesRow.holds Tryd.pinned (OpenSpec.ofChange schemaNamesSpec)

/-- ITS FALSE NEIGHBOUR: 'it returns false'. Refute it at one input. -/
def schemaNamesWrong : ChangeSpec := { name := "schemaNames", fn := fun _ => fun
  | [d1, d2] => { results := [.lit (.bool false)], args := [d1, d2] }
  | _ => none }
def SchemaNamesWrongFalsely : Prop := schemaNamesRow.holds Tryd.pinned (OpenSpec.ofChange schemaNamesWrong)

/-- 'tidegatelaw03.SchemaComposes': WHATEVER THE INPUT: true; the input reads as it did. -/
def schemaComposesSpec : ChangeSpec := { name := "schemaComposes", fn := fun _ => fun
  | [d1, d2, d3] => { results := [.lit (.bool true)], args := [d1, d2, d3] }
  | _ => none }
def schemaComposesRow : OpenClaim := { program := "yteahddjeanhnlaadoor", sum := "88a2918c14df74f707156bb1ba944583950dbfd8c2adeaac7bbbacf6b3989e96", func := "tidegate/tidegatelaw03.SchemaComposes", spec := "schemaComposes", inPlace := ["internal/bytealg.CountString", "internal/bytealg.IndexByteString", "internal/bytealg.IndexString", "internal/abi.NoEscape"], unfollowed := true, recurses := true, named := ["unicode/utf8.first", "unicode/utf8.acceptRanges", "internal/bytealg.MaxLen", "tidegate/schema.words"], apart := false, laid := [("unicode/utf8.acceptRanges", laid_unicode_utf8_acceptRanges), ("tidegate/schema.words", laid_tidegate_schema_words), ("unicode/utf8.first", laid_unicode_utf8_first)] }
def SchemaComposesSaid : Prop := schemaComposesRow.holds Tryd.pinned (OpenSpec.ofChange schemaComposesSpec)

/-- ITS FALSE NEIGHBOUR: 'it returns false'. Refute it at one input. -/
def schemaComposesWrong : ChangeSpec := { name := "schemaComposes", fn := fun _ => fun
  | [d1, d2, d3] => { results := [.lit (.bool false)], args := [d1, d2, d3] }
  | _ => none }
def SchemaComposesWrongFalsely : Prop := schemaComposesRow.holds Tryd.pinned (OpenSpec.ofChange schemaComposesWrong)

/-- 'tidegatelaw03.SchemaReturns': WHATEVER THE INPUT: true; the input reads as it did. -/
def schemaReturnsSpec : ChangeSpec := { name := "schemaReturns", fn := fun _ => fun
  | [d] => { results := [.lit (.bool true)], args := [d] }
  | _ => none }
def schemaReturnsRow : OpenClaim := { program := "yteahddjeanhnlaadoor", sum := "88a2918c14df74f707156bb1ba944583950dbfd8c2adeaac7bbbacf6b3989e96", func := "tidegate/tidegatelaw03.SchemaReturns", spec := "schemaReturns", inPlace := ["internal/bytealg.CountString", "internal/bytealg.IndexByteString", "internal/bytealg.IndexString", "internal/abi.NoEscape", "internal/bytealg.MakeNoZero"], unfollowed := true, recurses := true, named := ["unicode/utf8.first", "unicode/utf8.acceptRanges", "internal/bytealg.MaxLen", "tidegate/schema.words"], apart := false, laid := [("unicode/utf8.acceptRanges", laid_unicode_utf8_acceptRanges), ("tidegate/schema.words", laid_tidegate_schema_words), ("unicode/utf8.first", laid_unicode_utf8_first)] }
def SchemaReturnsSaid : Prop := schemaReturnsRow.holds Tryd.pinned (OpenSpec.ofChange schemaReturnsSpec)

/-- ITS FALSE NEIGHBOUR: 'it returns false'. Refute it at one input. -/
def schemaReturnsWrong : ChangeSpec := { name := "schemaReturns", fn := fun _ => fun
  | [d] => { results := [.lit (.bool false)], args := [d] }
  | _ => none }
def SchemaReturnsWrongFalsely : Prop := schemaReturnsRow.holds Tryd.pinned (OpenSpec.ofChange schemaReturnsWrong)

/- THE SECOND FORM. 'bulk': how many values and letters a reading holds, each counted each time it is reached (what is shared counts as often as it is met; a slice's spare places count too). A statement '..UptoSaid' is the law's where the arguments, and the package variables that the reading takes, are together of bulk at most 1048576: NARROWER than '..Said'. Prove '..Said' where nothing that the law and all that it calls make is longer than what came in: it says more and counts as full. Else prove '..UptoSaid'. A law counts once. -/
mutual
def uptoBulk {H : Type} : DataW H → Nat
  | .lit (.string bytes) => bytes.length + 1
  | .lit _ => 1
  | .nil => 1
  | .ptr d => uptoBulk d + 1
  | .slice elems spare => uptoBulkAll elems + uptoBulkAll spare + 1
  | .agg parts => uptoBulkAll parts + 1
  | .iface _ d => uptoBulk d + 1
  | .map entries => uptoBulkEntries entries + 1
  | .held _ => 1
def uptoBulkAll {H : Type} : List (DataW H) → Nat
  | [] => 0
  | d :: r => uptoBulk d + uptoBulkAll r
def uptoBulkEntries {H : Type} : List (Lit × DataW H) → Nat
  | [] => 0
  | x :: r => uptoBulkEntry x + uptoBulkEntries r
def uptoBulkEntry {H : Type} : Lit × DataW H → Nat
  | (.string bytes, d) => bytes.length + uptoBulk d + 1
  | (_, d) => uptoBulk d + 1
 end
def uptoSmall : (H : Type) → List (DataW H) → Bool := fun _ ds => decide (uptoBulkAll ds ≤ 1048576)
def OpenSpec.upto (s : _root_.Go.ChangeSpec) : _root_.Go.OpenSpec := { _root_.Go.OpenSpec.ofChange s with cond := some uptoSmall }

/-- 'tidegatelaw03.SchemaChecks', WHERE WHAT IT READS IS OF BULK AT MOST 1048576: true; the input reads as it did. -/
def schemaChecksUptoRow : OpenClaim := { program := "yteahddjeanhnlaadoor", sum := "88a2918c14df74f707156bb1ba944583950dbfd8c2adeaac7bbbacf6b3989e96", func := "tidegate/tidegatelaw03.SchemaChecks", spec := "schemaChecks", inPlace := ["internal/bytealg.CountString", "internal/bytealg.IndexByteString", "internal/bytealg.IndexString", "internal/abi.NoEscape"], unfollowed := true, recurses := true, named := ["unicode/utf8.first", "unicode/utf8.acceptRanges", "internal/bytealg.MaxLen", "tidegate/schema.words"], apart := false, laid := [("unicode/utf8.acceptRanges", laid_unicode_utf8_acceptRanges), ("tidegate/schema.words", laid_tidegate_schema_words), ("unicode/utf8.first", laid_unicode_utf8_first)], narrowed := true }
def SchemaChecksUptoSaid : Prop := schemaChecksUptoRow.holds Tryd.pinned (OpenSpec.upto schemaChecksSpec)

/-- 'tidegatelaw03.SchemaParses', WHERE WHAT IT READS IS OF BULK AT MOST 1048576: true; the input reads as it did. -/
def schemaParsesUptoRow : OpenClaim := { program := "yteahddjeanhnlaadoor", sum := "88a2918c14df74f707156bb1ba944583950dbfd8c2adeaac7bbbacf6b3989e96", func := "tidegate/tidegatelaw03.SchemaParses", spec := "schemaParses", inPlace := ["internal/bytealg.CountString", "internal/bytealg.IndexByteString", "internal/bytealg.IndexString", "internal/abi.NoEscape"], unfollowed := true, recurses := true, named := ["unicode/utf8.first", "unicode/utf8.acceptRanges", "internal/bytealg.MaxLen", "tidegate/schema.words", "tidegate/tidegateref03.kinds"], apart := false, laid := [("tidegate/tidegateref03.kinds", laid_tidegate_tidegateref03_kinds), ("unicode/utf8.acceptRanges", laid_unicode_utf8_acceptRanges), ("tidegate/schema.words", laid_tidegate_schema_words), ("unicode/utf8.first", laid_unicode_utf8_first)], narrowed := true }
def SchemaParsesUptoSaid : Prop := schemaParsesUptoRow.holds Tryd.pinned (OpenSpec.upto schemaParsesSpec)

/-- 'tidegatelaw03.SchemaFormats', WHERE WHAT IT READS IS OF BULK AT MOST 1048576: true; the input reads as it did. -/
def schemaFormatsUptoRow : OpenClaim := { program := "yteahddjeanhnlaadoor", sum := "88a2918c14df74f707156bb1ba944583950dbfd8c2adeaac7bbbacf6b3989e96", func := "tidegate/tidegatelaw03.SchemaFormats", spec := "schemaFormats", inPlace := ["internal/bytealg.CountString", "internal/bytealg.IndexByteString", "internal/bytealg.IndexString", "internal/abi.NoEscape"], unfollowed := true, recurses := true, named := ["unicode/utf8.first", "unicode/utf8.acceptRanges", "internal/bytealg.MaxLen", "tidegate/schema.words", "tidegate/tidegateref03.kinds"], apart := false, laid := [("tidegate/tidegateref03.kinds", laid_tidegate_tidegateref03_kinds), ("unicode/utf8.acceptRanges", laid_unicode_utf8_acceptRanges), ("tidegate/schema.words", laid_tidegate_schema_words), ("unicode/utf8.first", laid_unicode_utf8_first)], narrowed := true }
def SchemaFormatsUptoSaid : Prop := schemaFormatsUptoRow.holds Tryd.pinned (OpenSpec.upto schemaFormatsSpec)

/-- 'tidegatelaw03.SchemaKeeps', WHERE WHAT IT READS IS OF BULK AT MOST 1048576: true; the input reads as it did. -/
def schemaKeepsUptoRow : OpenClaim := { program := "yteahddjeanhnlaadoor", sum := "88a2918c14df74f707156bb1ba944583950dbfd8c2adeaac7bbbacf6b3989e96", func := "tidegate/tidegatelaw03.SchemaKeeps", spec := "schemaKeeps", inPlace := ["internal/bytealg.CountString", "internal/bytealg.IndexByteString", "internal/bytealg.IndexString", "internal/abi.NoEscape"], unfollowed := true, recurses := true, named := ["unicode/utf8.first", "unicode/utf8.acceptRanges", "internal/bytealg.MaxLen", "tidegate/schema.words"], apart := false, laid := [("unicode/utf8.acceptRanges", laid_unicode_utf8_acceptRanges), ("tidegate/schema.words", laid_tidegate_schema_words), ("unicode/utf8.first", laid_unicode_utf8_first)], narrowed := true }
def SchemaKeepsUptoSaid : Prop := schemaKeepsUptoRow.holds Tryd.pinned (OpenSpec.upto schemaKeepsSpec)

/-- 'tidegatelaw03.SchemaFinds', WHERE WHAT IT READS IS OF BULK AT MOST 1048576: true; the input reads as it did. -/
def schemaFindsUptoRow : OpenClaim := { program := "yteahddjeanhnlaadoor", sum := "88a2918c14df74f707156bb1ba944583950dbfd8c2adeaac7bbbacf6b3989e96", func := "tidegate/tidegatelaw03.SchemaFinds", spec := "schemaFinds", inPlace := ["internal/bytealg.CountString", "internal/bytealg.IndexByteString", "internal/bytealg.IndexString", "internal/abi.NoEscape"], unfollowed := true, recurses := true, named := ["unicode/utf8.first", "unicode/utf8.acceptRanges", "internal/bytealg.MaxLen", "tidegate/schema.words"], apart := false, laid := [("unicode/utf8.acceptRanges", laid_unicode_utf8_acceptRanges), ("tidegate/schema.words", laid_tidegate_schema_words), ("unicode/utf8.first", laid_unicode_utf8_first)], narrowed := true }
def SchemaFindsUptoSaid : Prop := schemaFindsUptoRow.holds Tryd.pinned (OpenSpec.upto schemaFindsSpec)

/-- 'tidegatelaw03.SchemaNames', WHERE WHAT IT READS IS OF BULK AT MOST 1048576: true; the input reads as it did. -/
def schemaNamesUptoRow : OpenClaim := { program := "yteahddjeanhnlaadoor", sum := "88a2918c14df74f707156bb1ba944583950dbfd8c2adeaac7bbbacf6b3989e96", func := "tidegate/tidegatelaw03.SchemaNames", spec := "schemaNames", inPlace := ["internal/bytealg.CountString", "internal/bytealg.IndexByteString", "internal/bytealg.IndexString", "internal/abi.NoEscape"], unfollowed := true, recurses := true, named := ["unicode/utf8.first", "unicode/utf8.acceptRanges", "internal/bytealg.MaxLen", "tidegate/schema.words"], apart := false, laid := [("unicode/utf8.acceptRanges", laid_unicode_utf8_acceptRanges), ("tidegate/schema.words", laid_tidegate_schema_words), ("unicode/utf8.first", laid_unicode_utf8_first)], narrowed := true }
def SchemaNamesUptoSaid : Prop := schemaNamesUptoRow.holds Tryd.pinned (OpenSpec.upto schemaNamesSpec)

/-- 'tidegatelaw03.SchemaComposes', WHERE WHAT IT READS IS OF BULK AT MOST 1048576: true; the input reads as it did. -/
def schemaComposesUptoRow : OpenClaim := { program := "yteahddjeanhnlaadoor", sum := "88a2918c14df74f707156bb1ba944583950dbfd8c2adeaac7bbbacf6b3989e96", func := "tidegate/tidegatelaw03.SchemaComposes", spec := "schemaComposes", inPlace := ["internal/bytealg.CountString", "internal/bytealg.IndexByteString", "internal/bytealg.IndexString", "internal/abi.NoEscape"], unfollowed := true, recurses := true, named := ["unicode/utf8.first", "unicode/utf8.acceptRanges", "internal/bytealg.MaxLen", "tidegate/schema.words"], apart := false, laid := [("unicode/utf8.acceptRanges", laid_unicode_utf8_acceptRanges), ("tidegate/schema.words", laid_tidegate_schema_words), ("unicode/utf8.first", laid_unicode_utf8_first)], narrowed := true }
def SchemaComposesUptoSaid : Prop := schemaComposesUptoRow.holds Tryd.pinned (OpenSpec.upto schemaComposesSpec)

/-- 'tidegatelaw03.SchemaReturns', WHERE WHAT IT READS IS OF BULK AT MOST 1048576: true; the input reads as it did. -/
def schemaReturnsUptoRow : OpenClaim := { program := "yteahddjeanhnlaadoor", sum := "88a2918c14df74f707156bb1ba944583950dbfd8c2adeaac7bbbacf6b3989e96", func := "tidegate/tidegatelaw03.SchemaReturns", spec := "schemaReturns", inPlace := ["internal/bytealg.CountString", "internal/bytealg.IndexByteString", "internal/bytealg.IndexString", "internal/abi.NoEscape", "internal/bytealg.MakeNoZero"], unfollowed := true, recurses := true, named := ["unicode/utf8.first", "unicode/utf8.acceptRanges", "internal/bytealg.MaxLen", "tidegate/schema.words"], apart := false, laid := [("unicode/utf8.acceptRanges", laid_unicode_utf8_acceptRanges), ("tidegate/schema.words", laid_tidegate_schema_words), ("unicode/utf8.first", laid_unicode_utf8_first)], narrowed := true }
def SchemaReturnsUptoSaid : Prop := schemaReturnsUptoRow.holds Tryd.pinned (OpenSpec.upto schemaReturnsSpec)

end Rows
end Go.Proofs.YteahddjeanhnlaaDoor
