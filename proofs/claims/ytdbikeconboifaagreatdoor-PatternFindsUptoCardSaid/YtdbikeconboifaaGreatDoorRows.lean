/-
  NARROWER THAN 'FOR EVERY INPUT', by the rows' own cells (each row's printed sentence says how): PatternNumbers: loops, laid · PatternChecks: loops, laid · PatternFinds: loops, laid · PatternRenames: loops, laid.
  DERIVED. THE GIVEN ROWS OF THIS SEAT. 4 by the template 'for every input the law returns true; each argument reads behind the call as it read before'; 0 by the template 'total and deterministic' (their statements: YtdbikeconboifaaGreatDoorTotals.lean).
  GIVEN WITH THE SEED: the statements are not yours to turn. If you find one false, say at which input.
  Laid BY PROGRAM, IN A SANDBOX (cutbox-rows.mjs): the forced cells as the released guide's own fill.sh prints them over the translation f425993f039505bd… (all of the seat's roots in one cut). By AI agents, Wed Nov 11 2026. No macro, syntax, notation, axiom, sorry.
-/
import Derived.Test.YtdbikeconboifaaGreatDoorChecked
import GoSem.Claim
import GoSem.ClaimJoined
import GoSem.ClaimMapViews
import Derived.JoinedTies
import Derived.KernelRfl
namespace Go.Proofs.YtdbikeconboifaaGreatDoor
/- THE CELL 'sum', in the pinned program and in every row, IS THE sha256 OF THE DUMP (.gsa) THAT YtdbikeconboifaaGreatDoorProg.lean LOADS. Nothing in Lean hashes anything: it is a label: what it is worth is what the hold of that sum in a sandbox is worth. -/
noncomputable def Tryz.pinned : Pinned := { name := "ytdbikeconboifaagreatdoor", sum := "f425993f039505bd8df6ce23fc32acfd14e34df61eeee35dd2ed67476b85c362", checked := Tryz.checked }
namespace Rows
def none {H : Type} : Left H := { results := [], args := [] }

/- WHAT THE LISTED PACKAGE-LEVEL VARIABLES READ AS WHEN THE CALL BEGINS. Each datum BY PROGRAM (the guide's laid-datum.mjs) off the statement by which the dump's own 'gosem.cut.vars' lays the variable. In a bare row this is a premise. The card (YtdbikeconboifaaGreatDoorCards.lean) ties it to the program's text. -/
def laid_tidegate_pattern_shapes {H : Type} : DataW H := .agg [.agg [.lit (.int .i64 0), .lit (.int .i64 0), .lit (.bool true), .lit (.bool true), .lit (.bool false), .lit (.bool false)], .agg [.lit (.int .i64 2), .lit (.int .i64 64), .lit (.bool false), .lit (.bool false), .lit (.bool false), .lit (.bool false)], .agg [.lit (.int .i64 2), .lit (.int .i64 64), .lit (.bool false), .lit (.bool false), .lit (.bool false), .lit (.bool false)], .agg [.lit (.int .i64 2), .lit (.int .i64 64), .lit (.bool false), .lit (.bool false), .lit (.bool false), .lit (.bool false)], .agg [.lit (.int .i64 1), .lit (.int .i64 1), .lit (.bool false), .lit (.bool false), .lit (.bool false), .lit (.bool false)], .agg [.lit (.int .i64 1), .lit (.int .i64 1), .lit (.bool true), .lit (.bool true), .lit (.bool true), .lit (.bool false)], .agg [.lit (.int .i64 1), .lit (.int .i64 1), .lit (.bool false), .lit (.bool false), .lit (.bool true), .lit (.bool true)], .agg [.lit (.int .i64 1), .lit (.int .i64 1), .lit (.bool false), .lit (.bool true), .lit (.bool false), .lit (.bool false)], .agg [.lit (.int .i64 2), .lit (.int .i64 2), .lit (.bool false), .lit (.bool false), .lit (.bool false), .lit (.bool false)], .agg [.lit (.int .i64 1), .lit (.int .i64 1), .lit (.bool true), .lit (.bool true), .lit (.bool true), .lit (.bool false)], .agg [.lit (.int .i64 1), .lit (.int .i64 1), .lit (.bool false), .lit (.bool false), .lit (.bool true), .lit (.bool true)]]

/-- 'tidegatelaw09.PatternNumbers': WHATEVER THE INPUT: true; the input reads as it did. -/
def patternNumbersSpec : ChangeSpec := { name := "patternNumbers", fn := fun _ => fun
  | [d] => { results := [.lit (.bool true)], args := [d] }
  | _ => none }
def patternNumbersRow : OpenClaim := { program := "ytdbikeconboifaagreatdoor", sum := "f425993f039505bd8df6ce23fc32acfd14e34df61eeee35dd2ed67476b85c362", func := "tidegate/tidegatelaw09.PatternNumbers", spec := "patternNumbers", unfollowed := true, recurses := true, named := ["tidegate/pattern.shapes"], loops := true, apart := false, laid := [("tidegate/pattern.shapes", laid_tidegate_pattern_shapes)] }
def PatternNumbersSaid : Prop := patternNumbersRow.holds Tryz.pinned (OpenSpec.ofChange patternNumbersSpec)

/-- ITS FALSE NEIGHBOUR: 'it returns false'. Refute it at one input. -/
def patternNumbersWrong : ChangeSpec := { name := "patternNumbers", fn := fun _ => fun
  | [d] => { results := [.lit (.bool false)], args := [d] }
  | _ => none }
def PatternNumbersWrongFalsely : Prop := patternNumbersRow.holds Tryz.pinned (OpenSpec.ofChange patternNumbersWrong)

/-- 'tidegatelaw09.PatternChecks': WHATEVER THE INPUT: true; the input reads as it did. -/
def patternChecksSpec : ChangeSpec := { name := "patternChecks", fn := fun _ => fun
  | [d] => { results := [.lit (.bool true)], args := [d] }
  | _ => none }
def patternChecksRow : OpenClaim := { program := "ytdbikeconboifaagreatdoor", sum := "f425993f039505bd8df6ce23fc32acfd14e34df61eeee35dd2ed67476b85c362", func := "tidegate/tidegatelaw09.PatternChecks", spec := "patternChecks", unfollowed := true, recurses := true, named := ["tidegate/pattern.shapes"], loops := true, apart := false, laid := [("tidegate/pattern.shapes", laid_tidegate_pattern_shapes)] }
def PatternChecksSaid : Prop := patternChecksRow.holds Tryz.pinned (OpenSpec.ofChange patternChecksSpec)

/-- ITS FALSE NEIGHBOUR: 'it returns false'. Refute it at one input. -/
def patternChecksWrong : ChangeSpec := { name := "patternChecks", fn := fun _ => fun
  | [d] => { results := [.lit (.bool false)], args := [d] }
  | _ => none }
def PatternChecksWrongFalsely : Prop := patternChecksRow.holds Tryz.pinned (OpenSpec.ofChange patternChecksWrong)

/-- 'tidegatelaw09.PatternFinds': WHATEVER THE INPUT: true; the input reads as it did. -/
def patternFindsSpec : ChangeSpec := { name := "patternFinds", fn := fun _ => fun
  | [d1, d2, d3] => { results := [.lit (.bool true)], args := [d1, d2, d3] }
  | _ => none }
def patternFindsRow : OpenClaim := { program := "ytdbikeconboifaagreatdoor", sum := "f425993f039505bd8df6ce23fc32acfd14e34df61eeee35dd2ed67476b85c362", func := "tidegate/tidegatelaw09.PatternFinds", spec := "patternFinds", unfollowed := true, recurses := true, named := ["tidegate/pattern.shapes"], loops := true, apart := false, laid := [("tidegate/pattern.shapes", laid_tidegate_pattern_shapes)] }
def PatternFindsSaid : Prop := patternFindsRow.holds Tryz.pinned (OpenSpec.ofChange patternFindsSpec)

/-- ITS FALSE NEIGHBOUR: 'it returns false'. Refute it at one input. -/
def patternFindsWrong : ChangeSpec := { name := "patternFinds", fn := fun _ => fun
  | [d1, d2, d3] => { results := [.lit (.bool false)], args := [d1, d2, d3] }
  | _ => none }
def PatternFindsWrongFalsely : Prop := patternFindsRow.holds Tryz.pinned (OpenSpec.ofChange patternFindsWrong)

/-- 'tidegatelaw09.PatternRenames': WHATEVER THE INPUT: true; the input reads as it did. -/
def patternRenamesSpec : ChangeSpec := { name := "patternRenames", fn := fun _ => fun
  | [d1, d2] => { results := [.lit (.bool true)], args := [d1, d2] }
  | _ => none }
def patternRenamesRow : OpenClaim := { program := "ytdbikeconboifaagreatdoor", sum := "f425993f039505bd8df6ce23fc32acfd14e34df61eeee35dd2ed67476b85c362", func := "tidegate/tidegatelaw09.PatternRenames", spec := "patternRenames", unfollowed := true, recurses := true, named := ["tidegate/pattern.shapes"], loops := true, apart := false, laid := [("tidegate/pattern.shapes", laid_tidegate_pattern_shapes)] }
def PatternRenamesSaid : Prop := patternRenamesRow.holds Tryz.pinned (OpenSpec.ofChange patternRenamesSpec)

/-- ITS FALSE NEIGHBOUR: 'it returns false'. Refute it at one input. -/
def patternRenamesWrong : ChangeSpec := { name := "patternRenames", fn := fun _ => fun
  | [d1, d2] => { results := [.lit (.bool false)], args := [d1, d2] }
  | _ => none }
def PatternRenamesWrongFalsely : Prop := patternRenamesRow.holds Tryz.pinned (OpenSpec.ofChange patternRenamesWrong)

/- THE SECOND FORM. 'bulk': how many values and letters a reading holds, each counted each time it is reached (what is shared counts as often as it is met; a slice's spare places count too). A statement '..UptoSaid' is the law's where the arguments, and the package variables that the reading takes, are together of bulk at most 1048576: NARROWER than '..Said'. Prove '..Said' where nothing that the law and all that it calls make is longer than what came in: it says more and counts as full. Else prove '..UptoSaid'. A law counts once. -/
mutual
def uptoBulk {H : Type} : DataW H → Nat
  | .lit (.string bytes) => bytes.length + 1
  | .lit _ => 1
  | .nil => 1
  | .ptr d => uptoBulk d + 1
  | .slice elems spare => uptoBulkAll elems + uptoBulkAll spare + 1
  | .agg parts => uptoBulkAll parts + 1
  | .iface _ d => uptoBulk d + 1
  | .map entries => uptoBulkEntries entries + 1
  | .held _ => 1
def uptoBulkAll {H : Type} : List (DataW H) → Nat
  | [] => 0
  | d :: r => uptoBulk d + uptoBulkAll r
def uptoBulkEntries {H : Type} : List (Lit × DataW H) → Nat
  | [] => 0
  | x :: r => uptoBulkEntry x + uptoBulkEntries r
def uptoBulkEntry {H : Type} : Lit × DataW H → Nat
  | (.string bytes, d) => bytes.length + uptoBulk d + 1
  | (_, d) => uptoBulk d + 1
 end
def uptoSmall : (H : Type) → List (DataW H) → Bool := fun _ ds => decide (uptoBulkAll ds ≤ 1048576)
def OpenSpec.upto (s : _root_.Go.ChangeSpec) : _root_.Go.OpenSpec := { _root_.Go.OpenSpec.ofChange s with cond := some uptoSmall }

/-- 'tidegatelaw09.PatternNumbers', WHERE WHAT IT READS IS OF BULK AT MOST 1048576: true; the input reads as it did. -/
def patternNumbersUptoRow : OpenClaim := { program := "ytdbikeconboifaagreatdoor", sum := "f425993f039505bd8df6ce23fc32acfd14e34df61eeee35dd2ed67476b85c362", func := "tidegate/tidegatelaw09.PatternNumbers", spec := "patternNumbers", unfollowed := true, recurses := true, named := ["tidegate/pattern.shapes"], loops := true, apart := false, laid := [("tidegate/pattern.shapes", laid_tidegate_pattern_shapes)], narrowed := true }
def PatternNumbersUptoSaid : Prop := patternNumbersUptoRow.holds Tryz.pinned (OpenSpec.upto patternNumbersSpec)

/-- 'tidegatelaw09.PatternChecks', WHERE WHAT IT READS IS OF BULK AT MOST 1048576: true; the input reads as it did. -/
def patternChecksUptoRow : OpenClaim := { program := "ytdbikeconboifaagreatdoor", sum := "f425993f039505bd8df6ce23fc32acfd14e34df61eeee35dd2ed67476b85c362", func := "tidegate/tidegatelaw09.PatternChecks", spec := "patternChecks", unfollowed := true, recurses := true, named := ["tidegate/pattern.shapes"], loops := true, apart := false, laid := [("tidegate/pattern.shapes", laid_tidegate_pattern_shapes)], narrowed := true }
def PatternChecksUptoSaid : Prop := patternChecksUptoRow.holds Tryz.pinned (OpenSpec.upto patternChecksSpec)

/-- 'tidegatelaw09.PatternFinds', WHERE WHAT IT READS IS OF BULK AT MOST 1048576: true; the input reads as it did. -/
def patternFindsUptoRow : OpenClaim := { program := "ytdbikeconboifaagreatdoor", sum := "f425993f039505bd8df6ce23fc32acfd14e34df61eeee35dd2ed67476b85c362", func := "tidegate/tidegatelaw09.PatternFinds", spec := "patternFinds", unfollowed := true, recurses := true, named := ["tidegate/pattern.shapes"], loops := true, apart := false, laid := [("tidegate/pattern.shapes", laid_tidegate_pattern_shapes)], narrowed := true }
def PatternFindsUptoSaid : Prop := patternFindsUptoRow.holds Tryz.pinned (OpenSpec.upto patternFindsSpec)

/-- 'tidegatelaw09.PatternRenames', WHERE WHAT IT READS IS OF BULK AT MOST 1048576: true; the input reads as it did. -/
def patternRenamesUptoRow : OpenClaim := { program := "ytdbikeconboifaagreatdoor", sum := "f425993f039505bd8df6ce23fc32acfd14e34df61eeee35dd2ed67476b85c362", func := "tidegate/tidegatelaw09.PatternRenames", spec := "patternRenames", unfollowed := true, recurses := true, named := ["tidegate/pattern.shapes"], loops := true, apart := false, laid := [("tidegate/pattern.shapes", laid_tidegate_pattern_shapes)], narrowed := true }
def PatternRenamesUptoSaid : Prop := patternRenamesUptoRow.holds Tryz.pinned (OpenSpec.upto patternRenamesSpec)

end Rows
end Go.Proofs.YtdbikeconboifaaGreatDoor
