/-
  NARROWER THAN 'FOR EVERY INPUT', by the rows' own cells (each row's printed sentence says how): PatternNodes: loops, laid · PatternSurrounds: loops, laid · PatternUnfolds: loops, laid · PatternTurns: loops, laid.
  DERIVED. THE GIVEN ROWS OF THIS SEAT. 4 by the template 'for every input the law returns true; each argument reads behind the call as it read before'; 0 by the template 'total and deterministic' (their statements: YtdbikeconboifaaDoorTotals.lean).
  GIVEN WITH THE SEED: the statements are not yours to turn. If you find one false, say at which input.
  Laid BY PROGRAM, IN A SANDBOX (cutbox-rows.mjs): the forced cells as the released guide's own fill.sh prints them over the translation 97603fde6d9634ba… (all of the seat's roots in one cut). By AI agents, Wed Nov 11 2026. No macro, syntax, notation, axiom, sorry.
-/
import Derived.Test.YtdbikeconboifaaDoorChecked
import GoSem.Claim
import GoSem.ClaimJoined
import GoSem.ClaimMapViews
import Derived.JoinedTies
import Derived.KernelRfl
namespace Go.Proofs.YtdbikeconboifaaDoor
/- THE CELL 'sum', in the pinned program and in every row, IS THE sha256 OF THE DUMP (.gsa) THAT YtdbikeconboifaaDoorProg.lean LOADS. Nothing in Lean hashes anything: it is a label: what it is worth is what the hold of that sum in a sandbox is worth. -/
noncomputable def Tryd.pinned : Pinned := { name := "ytdbikeconboifaadoor", sum := "97603fde6d9634baa5347219162008b6bfd3b4dcce24e026a10e74c9d2ca1959", checked := Tryd.checked }
namespace Rows
def none {H : Type} : Left H := { results := [], args := [] }

/- WHAT THE LISTED PACKAGE-LEVEL VARIABLES READ AS WHEN THE CALL BEGINS. Each datum BY PROGRAM (the guide's laid-datum.mjs) off the statement by which the dump's own 'gosem.cut.vars' lays the variable. In a bare row this is a premise. The card (YtdbikeconboifaaDoorCards.lean) ties it to the program's text. -/
def laid_tidegate_pattern_shapes {H : Type} : DataW H := .agg [.agg [.lit (.int .i64 0), .lit (.int .i64 0), .lit (.bool true), .lit (.bool true), .lit (.bool false), .lit (.bool false)], .agg [.lit (.int .i64 2), .lit (.int .i64 64), .lit (.bool false), .lit (.bool false), .lit (.bool false), .lit (.bool false)], .agg [.lit (.int .i64 2), .lit (.int .i64 64), .lit (.bool false), .lit (.bool false), .lit (.bool false), .lit (.bool false)], .agg [.lit (.int .i64 2), .lit (.int .i64 64), .lit (.bool false), .lit (.bool false), .lit (.bool false), .lit (.bool false)], .agg [.lit (.int .i64 1), .lit (.int .i64 1), .lit (.bool false), .lit (.bool false), .lit (.bool false), .lit (.bool false)], .agg [.lit (.int .i64 1), .lit (.int .i64 1), .lit (.bool true), .lit (.bool true), .lit (.bool true), .lit (.bool false)], .agg [.lit (.int .i64 1), .lit (.int .i64 1), .lit (.bool false), .lit (.bool false), .lit (.bool true), .lit (.bool true)], .agg [.lit (.int .i64 1), .lit (.int .i64 1), .lit (.bool false), .lit (.bool true), .lit (.bool false), .lit (.bool false)], .agg [.lit (.int .i64 2), .lit (.int .i64 2), .lit (.bool false), .lit (.bool false), .lit (.bool false), .lit (.bool false)], .agg [.lit (.int .i64 1), .lit (.int .i64 1), .lit (.bool true), .lit (.bool true), .lit (.bool true), .lit (.bool false)], .agg [.lit (.int .i64 1), .lit (.int .i64 1), .lit (.bool false), .lit (.bool false), .lit (.bool true), .lit (.bool true)]]

/-- 'tidegatelaw09.PatternNodes': WHATEVER THE INPUT: true; the input reads as it did. -/
def patternNodesSpec : ChangeSpec := { name := "patternNodes", fn := fun _ => fun
  | [d1, d2] => { results := [.lit (.bool true)], args := [d1, d2] }
  | _ => none }
def patternNodesRow : OpenClaim := { program := "ytdbikeconboifaadoor", sum := "97603fde6d9634baa5347219162008b6bfd3b4dcce24e026a10e74c9d2ca1959", func := "tidegate/tidegatelaw09.PatternNodes", spec := "patternNodes", unfollowed := true, recurses := true, named := ["tidegate/pattern.shapes"], loops := true, apart := false, laid := [("tidegate/pattern.shapes", laid_tidegate_pattern_shapes)] }
def PatternNodesSaid : Prop := patternNodesRow.holds Tryd.pinned (OpenSpec.ofChange patternNodesSpec)

/-- ITS FALSE NEIGHBOUR: 'it returns false'. Refute it at one input. -/
def patternNodesWrong : ChangeSpec := { name := "patternNodes", fn := fun _ => fun
  | [d1, d2] => { results := [.lit (.bool false)], args := [d1, d2] }
  | _ => none }
def PatternNodesWrongFalsely : Prop := patternNodesRow.holds Tryd.pinned (OpenSpec.ofChange patternNodesWrong)

/-- 'tidegatelaw09.PatternSurrounds': WHATEVER THE INPUT: true; the input reads as it did. -/
def patternSurroundsSpec : ChangeSpec := { name := "patternSurrounds", fn := fun _ => fun
  | [d1, d2, d3] => { results := [.lit (.bool true)], args := [d1, d2, d3] }
  | _ => none }
def patternSurroundsRow : OpenClaim := { program := "ytdbikeconboifaadoor", sum := "97603fde6d9634baa5347219162008b6bfd3b4dcce24e026a10e74c9d2ca1959", func := "tidegate/tidegatelaw09.PatternSurrounds", spec := "patternSurrounds", unfollowed := true, recurses := true, named := ["tidegate/pattern.shapes"], loops := true, apart := false, laid := [("tidegate/pattern.shapes", laid_tidegate_pattern_shapes)] }
def PatternSurroundsSaid : Prop := patternSurroundsRow.holds Tryd.pinned (OpenSpec.ofChange patternSurroundsSpec)

/-- ITS FALSE NEIGHBOUR: 'it returns false'. Refute it at one input. -/
def patternSurroundsWrong : ChangeSpec := { name := "patternSurrounds", fn := fun _ => fun
  | [d1, d2, d3] => { results := [.lit (.bool false)], args := [d1, d2, d3] }
  | _ => none }
def PatternSurroundsWrongFalsely : Prop := patternSurroundsRow.holds Tryd.pinned (OpenSpec.ofChange patternSurroundsWrong)

/-- 'tidegatelaw09.PatternUnfolds': WHATEVER THE INPUT: true; the input reads as it did. -/
def patternUnfoldsSpec : ChangeSpec := { name := "patternUnfolds", fn := fun _ => fun
  | [d] => { results := [.lit (.bool true)], args := [d] }
  | _ => none }
def patternUnfoldsRow : OpenClaim := { program := "ytdbikeconboifaadoor", sum := "97603fde6d9634baa5347219162008b6bfd3b4dcce24e026a10e74c9d2ca1959", func := "tidegate/tidegatelaw09.PatternUnfolds", spec := "patternUnfolds", unfollowed := true, recurses := true, named := ["tidegate/pattern.shapes"], loops := true, apart := false, laid := [("tidegate/pattern.shapes", laid_tidegate_pattern_shapes)] }
def PatternUnfoldsSaid : Prop := patternUnfoldsRow.holds Tryd.pinned (OpenSpec.ofChange patternUnfoldsSpec)

/-- ITS FALSE NEIGHBOUR: 'it returns false'. Refute it at one input. -/
def patternUnfoldsWrong : ChangeSpec := { name := "patternUnfolds", fn := fun _ => fun
  | [d] => { results := [.lit (.bool false)], args := [d] }
  | _ => none }
def PatternUnfoldsWrongFalsely : Prop := patternUnfoldsRow.holds Tryd.pinned (OpenSpec.ofChange patternUnfoldsWrong)

/-- 'tidegatelaw09.PatternTurns': WHATEVER THE INPUT: true; the input reads as it did. -/
def patternTurnsSpec : ChangeSpec := { name := "patternTurns", fn := fun _ => fun
  | [d1, d2] => { results := [.lit (.bool true)], args := [d1, d2] }
  | _ => none }
def patternTurnsRow : OpenClaim := { program := "ytdbikeconboifaadoor", sum := "97603fde6d9634baa5347219162008b6bfd3b4dcce24e026a10e74c9d2ca1959", func := "tidegate/tidegatelaw09.PatternTurns", spec := "patternTurns", unfollowed := true, recurses := true, named := ["tidegate/pattern.shapes"], loops := true, apart := false, laid := [("tidegate/pattern.shapes", laid_tidegate_pattern_shapes)] }
def PatternTurnsSaid : Prop := patternTurnsRow.holds Tryd.pinned (OpenSpec.ofChange patternTurnsSpec)

/-- ITS FALSE NEIGHBOUR: 'it returns false'. Refute it at one input. -/
def patternTurnsWrong : ChangeSpec := { name := "patternTurns", fn := fun _ => fun
  | [d1, d2] => { results := [.lit (.bool false)], args := [d1, d2] }
  | _ => none }
def PatternTurnsWrongFalsely : Prop := patternTurnsRow.holds Tryd.pinned (OpenSpec.ofChange patternTurnsWrong)

/- THE SECOND FORM. 'bulk': how many values and letters a reading holds, each counted each time it is reached (what is shared counts as often as it is met; a slice's spare places count too). A statement '..UptoSaid' is the law's where the arguments, and the package variables that the reading takes, are together of bulk at most 1048576: NARROWER than '..Said'. Prove '..Said' where nothing that the law and all that it calls make is longer than what came in: it says more and counts as full. Else prove '..UptoSaid'. A law counts once. -/
mutual
def uptoBulk {H : Type} : DataW H → Nat
  | .lit (.string bytes) => bytes.length + 1
  | .lit _ => 1
  | .nil => 1
  | .ptr d => uptoBulk d + 1
  | .slice elems spare => uptoBulkAll elems + uptoBulkAll spare + 1
  | .agg parts => uptoBulkAll parts + 1
  | .iface _ d => uptoBulk d + 1
  | .map entries => uptoBulkEntries entries + 1
  | .held _ => 1
def uptoBulkAll {H : Type} : List (DataW H) → Nat
  | [] => 0
  | d :: r => uptoBulk d + uptoBulkAll r
def uptoBulkEntries {H : Type} : List (Lit × DataW H) → Nat
  | [] => 0
  | x :: r => uptoBulkEntry x + uptoBulkEntries r
def uptoBulkEntry {H : Type} : Lit × DataW H → Nat
  | (.string bytes, d) => bytes.length + uptoBulk d + 1
  | (_, d) => uptoBulk d + 1
 end
def uptoSmall : (H : Type) → List (DataW H) → Bool := fun _ ds => decide (uptoBulkAll ds ≤ 1048576)
def OpenSpec.upto (s : _root_.Go.ChangeSpec) : _root_.Go.OpenSpec := { _root_.Go.OpenSpec.ofChange s with cond := some uptoSmall }

/-- 'tidegatelaw09.PatternNodes', WHERE WHAT IT READS IS OF BULK AT MOST 1048576: true; the input reads as it did. -/
def patternNodesUptoRow : OpenClaim := { program := "ytdbikeconboifaadoor", sum := "97603fde6d9634baa5347219162008b6bfd3b4dcce24e026a10e74c9d2ca1959", func := "tidegate/tidegatelaw09.PatternNodes", spec := "patternNodes", unfollowed := true, recurses := true, named := ["tidegate/pattern.shapes"], loops := true, apart := false, laid := [("tidegate/pattern.shapes", laid_tidegate_pattern_shapes)], narrowed := true }
def PatternNodesUptoSaid : Prop := patternNodesUptoRow.holds Tryd.pinned (OpenSpec.upto patternNodesSpec)

/-- 'tidegatelaw09.PatternSurrounds', WHERE WHAT IT READS IS OF BULK AT MOST 1048576: true; the input reads as it did. -/
def patternSurroundsUptoRow : OpenClaim := { program := "ytdbikeconboifaadoor", sum := "97603fde6d9634baa5347219162008b6bfd3b4dcce24e026a10e74c9d2ca1959", func := "tidegate/tidegatelaw09.PatternSurrounds", spec := "patternSurrounds", unfollowed := true, recurses := true, named := ["tidegate/pattern.shapes"], loops := true, apart := false, laid := [("tidegate/pattern.shapes", laid_tidegate_pattern_shapes)], narrowed := true }
def PatternSurroundsUptoSaid : Prop := patternSurroundsUptoRow.holds Tryd.pinned (OpenSpec.upto patternSurroundsSpec)

/-- 'tidegatelaw09.PatternUnfolds', WHERE WHAT IT READS IS OF BULK AT MOST 1048576: true; the input reads as it did. -/
def patternUnfoldsUptoRow : OpenClaim := { program := "ytdbikeconboifaadoor", sum := "97603fde6d9634baa5347219162008b6bfd3b4dcce24e026a10e74c9d2ca1959", func := "tidegate/tidegatelaw09.PatternUnfolds", spec := "patternUnfolds", unfollowed := true, recurses := true, named := ["tidegate/pattern.shapes"], loops := true, apart := false, laid := [("tidegate/pattern.shapes", laid_tidegate_pattern_shapes)], narrowed := true }
def PatternUnfoldsUptoSaid : Prop := patternUnfoldsUptoRow.holds Tryd.pinned (OpenSpec.upto patternUnfoldsSpec)

/-- 'tidegatelaw09.PatternTurns', WHERE WHAT IT READS IS OF BULK AT MOST 1048576: true; the input reads as it did. -/
def patternTurnsUptoRow : OpenClaim := { program := "ytdbikeconboifaadoor", sum := "97603fde6d9634baa5347219162008b6bfd3b4dcce24e026a10e74c9d2ca1959", func := "tidegate/tidegatelaw09.PatternTurns", spec := "patternTurns", unfollowed := true, recurses := true, named := ["tidegate/pattern.shapes"], loops := true, apart := false, laid := [("tidegate/pattern.shapes", laid_tidegate_pattern_shapes)], narrowed := true }
def PatternTurnsUptoSaid : Prop := patternTurnsUptoRow.holds Tryd.pinned (OpenSpec.upto patternTurnsSpec)

end Rows
end Go.Proofs.YtdbikeconboifaaDoor
