/-
  NARROWER THAN 'FOR EVERY INPUT', by the rows' own cells (each row's printed sentence says how): TypecheckConditions: loops, laid · TypecheckPatterns: loops, laid · TypecheckQueries: loops, laid · TypecheckWraps: loops, laid · TypecheckExtends: loops, laid · TypecheckRenames: loops, laid · TypecheckPrograms: loops, laid · TypecheckOrders: loops, laid.
  DERIVED. THE GIVEN ROWS OF THIS SEAT. 8 by the template 'for every input the law returns true; each argument reads behind the call as it read before'; 0 by the template 'total and deterministic' (their statements: YtpdmaimjllhooaaGreatDoorTotals.lean).
  GIVEN WITH THE SEED: the statements are not yours to turn. If you find one false, say at which input.
  Laid BY PROGRAM, IN A SANDBOX (cutbox-rows.mjs): the forced cells as the released guide's own fill.sh prints them over the translation 2e32c81bbebf5e47… (all of the seat's roots in one cut). By AI agents, Wed Nov 11 2026. No macro, syntax, notation, axiom, sorry.
-/
import Derived.Test.YtpdmaimjllhooaaGreatDoorChecked
import GoSem.Claim
import GoSem.ClaimJoined
import GoSem.ClaimMapViews
import Derived.JoinedTies
import Derived.KernelRfl
namespace Go.Proofs.YtpdmaimjllhooaaGreatDoor
/- THE CELL 'sum', in the pinned program and in every row, IS THE sha256 OF THE DUMP (.gsa) THAT YtpdmaimjllhooaaGreatDoorProg.lean LOADS. Nothing in Lean hashes anything: it is a label: what it is worth is what the hold of that sum in a sandbox is worth. -/
noncomputable def Tryz.pinned : Pinned := { name := "ytpdmaimjllhooaagreatdoor", sum := "2e32c81bbebf5e47e739358a26c371bf4b527f95e32d1857739f0406c99de5f0", checked := Tryz.checked }
namespace Rows
def none {H : Type} : Left H := { results := [], args := [] }

/- WHAT THE LISTED PACKAGE-LEVEL VARIABLES READ AS WHEN THE CALL BEGINS. Each datum BY PROGRAM (the guide's laid-datum.mjs) off the statement by which the dump's own 'gosem.cut.vars' lays the variable. In a bare row this is a premise. The card (YtpdmaimjllhooaaGreatDoorCards.lean) ties it to the program's text. -/
def laid_tidegate_pattern_shapes {H : Type} : DataW H := .agg [.agg [.lit (.int .i64 0), .lit (.int .i64 0), .lit (.bool true), .lit (.bool true), .lit (.bool false), .lit (.bool false)], .agg [.lit (.int .i64 2), .lit (.int .i64 64), .lit (.bool false), .lit (.bool false), .lit (.bool false), .lit (.bool false)], .agg [.lit (.int .i64 2), .lit (.int .i64 64), .lit (.bool false), .lit (.bool false), .lit (.bool false), .lit (.bool false)], .agg [.lit (.int .i64 2), .lit (.int .i64 64), .lit (.bool false), .lit (.bool false), .lit (.bool false), .lit (.bool false)], .agg [.lit (.int .i64 1), .lit (.int .i64 1), .lit (.bool false), .lit (.bool false), .lit (.bool false), .lit (.bool false)], .agg [.lit (.int .i64 1), .lit (.int .i64 1), .lit (.bool true), .lit (.bool true), .lit (.bool true), .lit (.bool false)], .agg [.lit (.int .i64 1), .lit (.int .i64 1), .lit (.bool false), .lit (.bool false), .lit (.bool true), .lit (.bool true)], .agg [.lit (.int .i64 1), .lit (.int .i64 1), .lit (.bool false), .lit (.bool true), .lit (.bool false), .lit (.bool false)], .agg [.lit (.int .i64 2), .lit (.int .i64 2), .lit (.bool false), .lit (.bool false), .lit (.bool false), .lit (.bool false)], .agg [.lit (.int .i64 1), .lit (.int .i64 1), .lit (.bool true), .lit (.bool true), .lit (.bool true), .lit (.bool false)], .agg [.lit (.int .i64 1), .lit (.int .i64 1), .lit (.bool false), .lit (.bool false), .lit (.bool true), .lit (.bool true)]]
def laid_tidegate_scope_table {H : Type} : DataW H := .agg [.agg [.lit (.bool true), .lit (.bool true)], .agg [.lit (.bool true), .lit (.bool false)], .agg [.lit (.bool false), .lit (.bool false)], .agg [.lit (.bool true), .lit (.bool false)], .agg [.lit (.bool false), .lit (.bool false)], .agg [.lit (.bool true), .lit (.bool true)], .agg [.lit (.bool true), .lit (.bool false)], .agg [.lit (.bool true), .lit (.bool true)]]

/-- 'tidegatelaw16.TypecheckConditions': WHATEVER THE INPUT: true; the input reads as it did. -/
def typecheckConditionsSpec : ChangeSpec := { name := "typecheckConditions", fn := fun _ => fun
  | [d1, d2, d3] => { results := [.lit (.bool true)], args := [d1, d2, d3] }
  | _ => none }
def typecheckConditionsRow : OpenClaim := { program := "ytpdmaimjllhooaagreatdoor", sum := "2e32c81bbebf5e47e739358a26c371bf4b527f95e32d1857739f0406c99de5f0", func := "tidegate/tidegatelaw16.TypecheckConditions", spec := "typecheckConditions", inPlace := ["internal/bytealg.IndexByteString", "internal/bytealg.IndexString"], unfollowed := true, recurses := true, named := ["internal/bytealg.MaxLen", "tidegate/pattern.shapes", "tidegate/scope.table"], loops := true, apart := false, laid := [("tidegate/pattern.shapes", laid_tidegate_pattern_shapes), ("tidegate/scope.table", laid_tidegate_scope_table)] }
def TypecheckConditionsSaid : Prop := typecheckConditionsRow.holds Tryz.pinned (OpenSpec.ofChange typecheckConditionsSpec)

/-- ITS FALSE NEIGHBOUR: 'it returns false'. Refute it at one input. -/
def typecheckConditionsWrong : ChangeSpec := { name := "typecheckConditions", fn := fun _ => fun
  | [d1, d2, d3] => { results := [.lit (.bool false)], args := [d1, d2, d3] }
  | _ => none }
def TypecheckConditionsWrongFalsely : Prop := typecheckConditionsRow.holds Tryz.pinned (OpenSpec.ofChange typecheckConditionsWrong)

/-- 'tidegatelaw16.TypecheckPatterns': WHATEVER THE INPUT: true; the input reads as it did. -/
def typecheckPatternsSpec : ChangeSpec := { name := "typecheckPatterns", fn := fun _ => fun
  | [d1, d2] => { results := [.lit (.bool true)], args := [d1, d2] }
  | _ => none }
def typecheckPatternsRow : OpenClaim := { program := "ytpdmaimjllhooaagreatdoor", sum := "2e32c81bbebf5e47e739358a26c371bf4b527f95e32d1857739f0406c99de5f0", func := "tidegate/tidegatelaw16.TypecheckPatterns", spec := "typecheckPatterns", inPlace := ["internal/bytealg.IndexByteString", "internal/bytealg.IndexString"], unfollowed := true, recurses := true, named := ["internal/bytealg.MaxLen", "tidegate/pattern.shapes", "tidegate/scope.table"], loops := true, apart := false, laid := [("tidegate/pattern.shapes", laid_tidegate_pattern_shapes), ("tidegate/scope.table", laid_tidegate_scope_table)] }
def TypecheckPatternsSaid : Prop := typecheckPatternsRow.holds Tryz.pinned (OpenSpec.ofChange typecheckPatternsSpec)

/-- ITS FALSE NEIGHBOUR: 'it returns false'. Refute it at one input. -/
def typecheckPatternsWrong : ChangeSpec := { name := "typecheckPatterns", fn := fun _ => fun
  | [d1, d2] => { results := [.lit (.bool false)], args := [d1, d2] }
  | _ => none }
def TypecheckPatternsWrongFalsely : Prop := typecheckPatternsRow.holds Tryz.pinned (OpenSpec.ofChange typecheckPatternsWrong)

/-- 'tidegatelaw16.TypecheckQueries': WHATEVER THE INPUT: true; the input reads as it did. -/
def typecheckQueriesSpec : ChangeSpec := { name := "typecheckQueries", fn := fun _ => fun
  | [d1, d2] => { results := [.lit (.bool true)], args := [d1, d2] }
  | _ => none }
def typecheckQueriesRow : OpenClaim := { program := "ytpdmaimjllhooaagreatdoor", sum := "2e32c81bbebf5e47e739358a26c371bf4b527f95e32d1857739f0406c99de5f0", func := "tidegate/tidegatelaw16.TypecheckQueries", spec := "typecheckQueries", inPlace := ["internal/bytealg.IndexByteString", "internal/bytealg.IndexString"], unfollowed := true, recurses := true, named := ["internal/bytealg.MaxLen", "tidegate/pattern.shapes", "tidegate/scope.table"], loops := true, apart := false, laid := [("tidegate/pattern.shapes", laid_tidegate_pattern_shapes), ("tidegate/scope.table", laid_tidegate_scope_table)] }
def TypecheckQueriesSaid : Prop := typecheckQueriesRow.holds Tryz.pinned (OpenSpec.ofChange typecheckQueriesSpec)

/-- ITS FALSE NEIGHBOUR: 'it returns false'. Refute it at one input. -/
def typecheckQueriesWrong : ChangeSpec := { name := "typecheckQueries", fn := fun _ => fun
  | [d1, d2] => { results := [.lit (.bool false)], args := [d1, d2] }
  | _ => none }
def TypecheckQueriesWrongFalsely : Prop := typecheckQueriesRow.holds Tryz.pinned (OpenSpec.ofChange typecheckQueriesWrong)

/-- 'tidegatelaw16.TypecheckWraps': WHATEVER THE INPUT: true; the input reads as it did. -/
def typecheckWrapsSpec : ChangeSpec := { name := "typecheckWraps", fn := fun _ => fun
  | [d1, d2] => { results := [.lit (.bool true)], args := [d1, d2] }
  | _ => none }
def typecheckWrapsRow : OpenClaim := { program := "ytpdmaimjllhooaagreatdoor", sum := "2e32c81bbebf5e47e739358a26c371bf4b527f95e32d1857739f0406c99de5f0", func := "tidegate/tidegatelaw16.TypecheckWraps", spec := "typecheckWraps", inPlace := ["internal/bytealg.IndexByteString", "internal/bytealg.IndexString"], unfollowed := true, recurses := true, named := ["tidegate/pattern.shapes", "internal/bytealg.MaxLen", "tidegate/scope.table"], loops := true, apart := false, laid := [("tidegate/pattern.shapes", laid_tidegate_pattern_shapes), ("tidegate/scope.table", laid_tidegate_scope_table)] }
def TypecheckWrapsSaid : Prop := typecheckWrapsRow.holds Tryz.pinned (OpenSpec.ofChange typecheckWrapsSpec)

/-- ITS FALSE NEIGHBOUR: 'it returns false'. Refute it at one input. -/
def typecheckWrapsWrong : ChangeSpec := { name := "typecheckWraps", fn := fun _ => fun
  | [d1, d2] => { results := [.lit (.bool false)], args := [d1, d2] }
  | _ => none }
def TypecheckWrapsWrongFalsely : Prop := typecheckWrapsRow.holds Tryz.pinned (OpenSpec.ofChange typecheckWrapsWrong)

/-- 'tidegatelaw16.TypecheckExtends': WHATEVER THE INPUT: true; the input reads as it did. -/
def typecheckExtendsSpec : ChangeSpec := { name := "typecheckExtends", fn := fun _ => fun
  | [d1, d2] => { results := [.lit (.bool true)], args := [d1, d2] }
  | _ => none }
def typecheckExtendsRow : OpenClaim := { program := "ytpdmaimjllhooaagreatdoor", sum := "2e32c81bbebf5e47e739358a26c371bf4b527f95e32d1857739f0406c99de5f0", func := "tidegate/tidegatelaw16.TypecheckExtends", spec := "typecheckExtends", inPlace := ["internal/bytealg.IndexByteString", "internal/bytealg.IndexString"], unfollowed := true, recurses := true, named := ["internal/bytealg.MaxLen", "tidegate/pattern.shapes", "tidegate/scope.table"], loops := true, apart := false, laid := [("tidegate/pattern.shapes", laid_tidegate_pattern_shapes), ("tidegate/scope.table", laid_tidegate_scope_table)] }
def TypecheckExtendsSaid : Prop := typecheckExtendsRow.holds Tryz.pinned (OpenSpec.ofChange typecheckExtendsSpec)

/-- ITS FALSE NEIGHBOUR: 'it returns false'. Refute it at one input. -/
def typecheckExtendsWrong : ChangeSpec := { name := "typecheckExtends", fn := fun _ => fun
  | [d1, d2] => { results := [.lit (.bool false)], args := [d1, d2] }
  | _ => none }
def TypecheckExtendsWrongFalsely : Prop := typecheckExtendsRow.holds Tryz.pinned (OpenSpec.ofChange typecheckExtendsWrong)

/-- 'tidegatelaw16.TypecheckRenames': WHATEVER THE INPUT: true; the input reads as it did. -/
def typecheckRenamesSpec : ChangeSpec := { name := "typecheckRenames", fn := fun _ => fun
  | [d1, d2] => { results := [.lit (.bool true)], args := [d1, d2] }
  | _ => none }
def typecheckRenamesRow : OpenClaim := { program := "ytpdmaimjllhooaagreatdoor", sum := "2e32c81bbebf5e47e739358a26c371bf4b527f95e32d1857739f0406c99de5f0", func := "tidegate/tidegatelaw16.TypecheckRenames", spec := "typecheckRenames", inPlace := ["internal/bytealg.IndexByteString", "internal/bytealg.IndexString"], unfollowed := true, recurses := true, named := ["internal/bytealg.MaxLen", "tidegate/pattern.shapes", "tidegate/scope.table"], loops := true, apart := false, laid := [("tidegate/pattern.shapes", laid_tidegate_pattern_shapes), ("tidegate/scope.table", laid_tidegate_scope_table)] }
def TypecheckRenamesSaid : Prop := typecheckRenamesRow.holds Tryz.pinned (OpenSpec.ofChange typecheckRenamesSpec)

/-- ITS FALSE NEIGHBOUR: 'it returns false'. Refute it at one input. -/
def typecheckRenamesWrong : ChangeSpec := { name := "typecheckRenames", fn := fun _ => fun
  | [d1, d2] => { results := [.lit (.bool false)], args := [d1, d2] }
  | _ => none }
def TypecheckRenamesWrongFalsely : Prop := typecheckRenamesRow.holds Tryz.pinned (OpenSpec.ofChange typecheckRenamesWrong)

/-- 'tidegatelaw16.TypecheckPrograms': WHATEVER THE INPUT: true; the input reads as it did. -/
def typecheckProgramsSpec : ChangeSpec := { name := "typecheckPrograms", fn := fun _ => fun
  | [d] => { results := [.lit (.bool true)], args := [d] }
  | _ => none }
def typecheckProgramsRow : OpenClaim := { program := "ytpdmaimjllhooaagreatdoor", sum := "2e32c81bbebf5e47e739358a26c371bf4b527f95e32d1857739f0406c99de5f0", func := "tidegate/tidegatelaw16.TypecheckPrograms", spec := "typecheckPrograms", inPlace := ["internal/bytealg.IndexByteString", "internal/bytealg.IndexString"], unfollowed := true, recurses := true, named := ["internal/bytealg.MaxLen", "tidegate/pattern.shapes", "tidegate/scope.table"], loops := true, apart := false, laid := [("tidegate/pattern.shapes", laid_tidegate_pattern_shapes), ("tidegate/scope.table", laid_tidegate_scope_table)] }
def TypecheckProgramsSaid : Prop := typecheckProgramsRow.holds Tryz.pinned (OpenSpec.ofChange typecheckProgramsSpec)

/-- ITS FALSE NEIGHBOUR: 'it returns false'. Refute it at one input. -/
def typecheckProgramsWrong : ChangeSpec := { name := "typecheckPrograms", fn := fun _ => fun
  | [d] => { results := [.lit (.bool false)], args := [d] }
  | _ => none }
def TypecheckProgramsWrongFalsely : Prop := typecheckProgramsRow.holds Tryz.pinned (OpenSpec.ofChange typecheckProgramsWrong)

/-- 'tidegatelaw16.TypecheckOrders': WHATEVER THE INPUT: true; the input reads as it did. -/
def typecheckOrdersSpec : ChangeSpec := { name := "typecheckOrders", fn := fun _ => fun
  | [d] => { results := [.lit (.bool true)], args := [d] }
  | _ => none }
def typecheckOrdersRow : OpenClaim := { program := "ytpdmaimjllhooaagreatdoor", sum := "2e32c81bbebf5e47e739358a26c371bf4b527f95e32d1857739f0406c99de5f0", func := "tidegate/tidegatelaw16.TypecheckOrders", spec := "typecheckOrders", inPlace := ["internal/bytealg.IndexByteString", "internal/bytealg.IndexString"], unfollowed := true, recurses := true, named := ["internal/bytealg.MaxLen", "tidegate/pattern.shapes", "tidegate/scope.table"], loops := true, apart := false, laid := [("tidegate/pattern.shapes", laid_tidegate_pattern_shapes), ("tidegate/scope.table", laid_tidegate_scope_table)] }
def TypecheckOrdersSaid : Prop := typecheckOrdersRow.holds Tryz.pinned (OpenSpec.ofChange typecheckOrdersSpec)

/-- ITS FALSE NEIGHBOUR: 'it returns false'. Refute it at one input. -/
def typecheckOrdersWrong : ChangeSpec := { name := "typecheckOrders", fn := fun _ => fun
  | [d] => { results := [.lit (.bool false)], args := [d] }
  | _ => none }
def TypecheckOrdersWrongFalsely : Prop := typecheckOrdersRow.holds Tryz.pinned (OpenSpec.ofChange typecheckOrdersWrong)

/- THE SECOND FORM. 'bulk': how many values and letters a reading holds, each counted each time it is reached (what is shared counts as often as it is met; a slice's spare places count too). A statement '..UptoSaid' is the law's where the arguments, and the package variables that the reading takes, are together of bulk at most 1048576: NARROWER than '..Said'. Prove '..Said' where nothing that the law and all that it calls make is longer than what came in: it says more and counts as full. Else prove '..UptoSaid'. A law counts once. -/
mutual
def uptoBulk {H : Type} : DataW H → Nat
  | .lit (.string bytes) => bytes.length + 1
  | .lit _ => 1
  | .nil => 1
  | .ptr d => uptoBulk d + 1
  | .slice elems spare => uptoBulkAll elems + uptoBulkAll spare + 1
  | .agg parts => uptoBulkAll parts + 1
  | .iface _ d => uptoBulk d + 1
  | .map entries => uptoBulkEntries entries + 1
  | .held _ => 1
def uptoBulkAll {H : Type} : List (DataW H) → Nat
  | [] => 0
  | d :: r => uptoBulk d + uptoBulkAll r
def uptoBulkEntries {H : Type} : List (Lit × DataW H) → Nat
  | [] => 0
  | x :: r => uptoBulkEntry x + uptoBulkEntries r
def uptoBulkEntry {H : Type} : Lit × DataW H → Nat
  | (.string bytes, d) => bytes.length + uptoBulk d + 1
  | (_, d) => uptoBulk d + 1
 end
def uptoSmall : (H : Type) → List (DataW H) → Bool := fun _ ds => decide (uptoBulkAll ds ≤ 1048576)
def OpenSpec.upto (s : _root_.Go.ChangeSpec) : _root_.Go.OpenSpec := { _root_.Go.OpenSpec.ofChange s with cond := some uptoSmall }

/-- 'tidegatelaw16.TypecheckConditions', WHERE WHAT IT READS IS OF BULK AT MOST 1048576: true; the input reads as it did. -/
def typecheckConditionsUptoRow : OpenClaim := { program := "ytpdmaimjllhooaagreatdoor", sum := "2e32c81bbebf5e47e739358a26c371bf4b527f95e32d1857739f0406c99de5f0", func := "tidegate/tidegatelaw16.TypecheckConditions", spec := "typecheckConditions", inPlace := ["internal/bytealg.IndexByteString", "internal/bytealg.IndexString"], unfollowed := true, recurses := true, named := ["internal/bytealg.MaxLen", "tidegate/pattern.shapes", "tidegate/scope.table"], loops := true, apart := false, laid := [("tidegate/pattern.shapes", laid_tidegate_pattern_shapes), ("tidegate/scope.table", laid_tidegate_scope_table)], narrowed := true }
def TypecheckConditionsUptoSaid : Prop := typecheckConditionsUptoRow.holds Tryz.pinned (OpenSpec.upto typecheckConditionsSpec)

/-- 'tidegatelaw16.TypecheckPatterns', WHERE WHAT IT READS IS OF BULK AT MOST 1048576: true; the input reads as it did. -/
def typecheckPatternsUptoRow : OpenClaim := { program := "ytpdmaimjllhooaagreatdoor", sum := "2e32c81bbebf5e47e739358a26c371bf4b527f95e32d1857739f0406c99de5f0", func := "tidegate/tidegatelaw16.TypecheckPatterns", spec := "typecheckPatterns", inPlace := ["internal/bytealg.IndexByteString", "internal/bytealg.IndexString"], unfollowed := true, recurses := true, named := ["internal/bytealg.MaxLen", "tidegate/pattern.shapes", "tidegate/scope.table"], loops := true, apart := false, laid := [("tidegate/pattern.shapes", laid_tidegate_pattern_shapes), ("tidegate/scope.table", laid_tidegate_scope_table)], narrowed := true }
def TypecheckPatternsUptoSaid : Prop := typecheckPatternsUptoRow.holds Tryz.pinned (OpenSpec.upto typecheckPatternsSpec)

/-- 'tidegatelaw16.TypecheckQueries', WHERE WHAT IT READS IS OF BULK AT MOST 1048576: true; the input reads as it did. -/
def typecheckQueriesUptoRow : OpenClaim := { program := "ytpdmaimjllhooaagreatdoor", sum := "2e32c81bbebf5e47e739358a26c371bf4b527f95e32d1857739f0406c99de5f0", func := "tidegate/tidegatelaw16.TypecheckQueries", spec := "typecheckQueries", inPlace := ["internal/bytealg.IndexByteString", "internal/bytealg.IndexString"], unfollowed := true, recurses := true, named := ["internal/bytealg.MaxLen", "tidegate/pattern.shapes", "tidegate/scope.table"], loops := true, apart := false, laid := [("tidegate/pattern.shapes", laid_tidegate_pattern_shapes), ("tidegate/scope.table", laid_tidegate_scope_table)], narrowed := true }
def TypecheckQueriesUptoSaid : Prop := typecheckQueriesUptoRow.holds Tryz.pinned (OpenSpec.upto typecheckQueriesSpec)

/-- 'tidegatelaw16.TypecheckWraps', WHERE WHAT IT READS IS OF BULK AT MOST 1048576: true; the input reads as it did. -/
def typecheckWrapsUptoRow : OpenClaim := { program := "ytpdmaimjllhooaagreatdoor", sum := "2e32c81bbebf5e47e739358a26c371bf4b527f95e32d1857739f0406c99de5f0", func := "tidegate/tidegatelaw16.TypecheckWraps", spec := "typecheckWraps", inPlace := ["internal/bytealg.IndexByteString", "internal/bytealg.IndexString"], unfollowed := true, recurses := true, named := ["tidegate/pattern.shapes", "internal/bytealg.MaxLen", "tidegate/scope.table"], loops := true, apart := false, laid := [("tidegate/pattern.shapes", laid_tidegate_pattern_shapes), ("tidegate/scope.table", laid_tidegate_scope_table)], narrowed := true }
def TypecheckWrapsUptoSaid : Prop := typecheckWrapsUptoRow.holds Tryz.pinned (OpenSpec.upto typecheckWrapsSpec)

/-- 'tidegatelaw16.TypecheckExtends', WHERE WHAT IT READS IS OF BULK AT MOST 1048576: true; the input reads as it did. -/
def typecheckExtendsUptoRow : OpenClaim := { program := "ytpdmaimjllhooaagreatdoor", sum := "2e32c81bbebf5e47e739358a26c371bf4b527f95e32d1857739f0406c99de5f0", func := "tidegate/tidegatelaw16.TypecheckExtends", spec := "typecheckExtends", inPlace := ["internal/bytealg.IndexByteString", "internal/bytealg.IndexString"], unfollowed := true, recurses := true, named := ["internal/bytealg.MaxLen", "tidegate/pattern.shapes", "tidegate/scope.table"], loops := true, apart := false, laid := [("tidegate/pattern.shapes", laid_tidegate_pattern_shapes), ("tidegate/scope.table", laid_tidegate_scope_table)], narrowed := true }
def TypecheckExtendsUptoSaid : Prop := typecheckExtendsUptoRow.holds Tryz.pinned (OpenSpec.upto typecheckExtendsSpec)

/-- 'tidegatelaw16.TypecheckRenames', WHERE WHAT IT READS IS OF BULK AT MOST 1048576: true; the input reads as it did. -/
def typecheckRenamesUptoRow : OpenClaim := { program := "ytpdmaimjllhooaagreatdoor", sum := "2e32c81bbebf5e47e739358a26c371bf4b527f95e32d1857739f0406c99de5f0", func := "tidegate/tidegatelaw16.TypecheckRenames", spec := "typecheckRenames", inPlace := ["internal/bytealg.IndexByteString", "internal/bytealg.IndexString"], unfollowed := true, recurses := true, named := ["internal/bytealg.MaxLen", "tidegate/pattern.shapes", "tidegate/scope.table"], loops := true, apart := false, laid := [("tidegate/pattern.shapes", laid_tidegate_pattern_shapes), ("tidegate/scope.table", laid_tidegate_scope_table)], narrowed := true }
def TypecheckRenamesUptoSaid : Prop := typecheckRenamesUptoRow.holds Tryz.pinned (OpenSpec.upto typecheckRenamesSpec)

/-- 'tidegatelaw16.TypecheckPrograms', WHERE WHAT IT READS IS OF BULK AT MOST 1048576: true; the input reads as it did. -/
def typecheckProgramsUptoRow : OpenClaim := { program := "ytpdmaimjllhooaagreatdoor", sum := "2e32c81bbebf5e47e739358a26c371bf4b527f95e32d1857739f0406c99de5f0", func := "tidegate/tidegatelaw16.TypecheckPrograms", spec := "typecheckPrograms", inPlace := ["internal/bytealg.IndexByteString", "internal/bytealg.IndexString"], unfollowed := true, recurses := true, named := ["internal/bytealg.MaxLen", "tidegate/pattern.shapes", "tidegate/scope.table"], loops := true, apart := false, laid := [("tidegate/pattern.shapes", laid_tidegate_pattern_shapes), ("tidegate/scope.table", laid_tidegate_scope_table)], narrowed := true }
def TypecheckProgramsUptoSaid : Prop := typecheckProgramsUptoRow.holds Tryz.pinned (OpenSpec.upto typecheckProgramsSpec)

/-- 'tidegatelaw16.TypecheckOrders', WHERE WHAT IT READS IS OF BULK AT MOST 1048576: true; the input reads as it did. -/
def typecheckOrdersUptoRow : OpenClaim := { program := "ytpdmaimjllhooaagreatdoor", sum := "2e32c81bbebf5e47e739358a26c371bf4b527f95e32d1857739f0406c99de5f0", func := "tidegate/tidegatelaw16.TypecheckOrders", spec := "typecheckOrders", inPlace := ["internal/bytealg.IndexByteString", "internal/bytealg.IndexString"], unfollowed := true, recurses := true, named := ["internal/bytealg.MaxLen", "tidegate/pattern.shapes", "tidegate/scope.table"], loops := true, apart := false, laid := [("tidegate/pattern.shapes", laid_tidegate_pattern_shapes), ("tidegate/scope.table", laid_tidegate_scope_table)], narrowed := true }
def TypecheckOrdersUptoSaid : Prop := typecheckOrdersUptoRow.holds Tryz.pinned (OpenSpec.upto typecheckOrdersSpec)

end Rows
end Go.Proofs.YtpdmaimjllhooaaGreatDoor
