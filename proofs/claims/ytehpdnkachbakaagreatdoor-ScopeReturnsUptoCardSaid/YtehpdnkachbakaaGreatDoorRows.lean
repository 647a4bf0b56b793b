/-
  NARROWER THAN 'FOR EVERY INPUT', by the rows' own cells (each row's printed sentence says how): ScopeUsable: loops, laid · ScopeChecks: loops, laid · ScopeReturns: loops, laid.
  DERIVED. THE GIVEN ROWS OF THIS SEAT. 3 by the template 'for every input the law returns true; each argument reads behind the call as it read before'; 0 by the template 'total and deterministic' (their statements: YtehpdnkachbakaaGreatDoorTotals.lean).
  GIVEN WITH THE SEED: the statements are not yours to turn. If you find one false, say at which input.
  Laid BY PROGRAM, IN A SANDBOX (cutbox-rows.mjs): the forced cells as the released guide's own fill.sh prints them over the translation e30cbc5681dd0e3a… (all of the seat's roots in one cut). By AI agents, Wed Nov 11 2026. No macro, syntax, notation, axiom, sorry.
-/
import Derived.Test.YtehpdnkachbakaaGreatDoorChecked
import GoSem.Claim
import GoSem.ClaimJoined
import GoSem.ClaimMapViews
import Derived.JoinedTies
import Derived.KernelRfl
namespace Go.Proofs.YtehpdnkachbakaaGreatDoor
/- THE CELL 'sum', in the pinned program and in every row, IS THE sha256 OF THE DUMP (.gsa) THAT YtehpdnkachbakaaGreatDoorProg.lean LOADS. Nothing in Lean hashes anything: it is a label: what it is worth is what the hold of that sum in a sandbox is worth. -/
noncomputable def Tryz.pinned : Pinned := { name := "ytehpdnkachbakaagreatdoor", sum := "e30cbc5681dd0e3a7832045544f6fc0b22af8981eef2a28f7f09583fc001ba46", checked := Tryz.checked }
namespace Rows
def none {H : Type} : Left H := { results := [], args := [] }

/- WHAT THE LISTED PACKAGE-LEVEL VARIABLES READ AS WHEN THE CALL BEGINS. Each datum BY PROGRAM (the guide's laid-datum.mjs) off the statement by which the dump's own 'gosem.cut.vars' lays the variable. In a bare row this is a premise. The card (YtehpdnkachbakaaGreatDoorCards.lean) ties it to the program's text. -/
def laid_tidegate_pattern_shapes {H : Type} : DataW H := .agg [.agg [.lit (.int .i64 0), .lit (.int .i64 0), .lit (.bool true), .lit (.bool true), .lit (.bool false), .lit (.bool false)], .agg [.lit (.int .i64 2), .lit (.int .i64 64), .lit (.bool false), .lit (.bool false), .lit (.bool false), .lit (.bool false)], .agg [.lit (.int .i64 2), .lit (.int .i64 64), .lit (.bool false), .lit (.bool false), .lit (.bool false), .lit (.bool false)], .agg [.lit (.int .i64 2), .lit (.int .i64 64), .lit (.bool false), .lit (.bool false), .lit (.bool false), .lit (.bool false)], .agg [.lit (.int .i64 1), .lit (.int .i64 1), .lit (.bool false), .lit (.bool false), .lit (.bool false), .lit (.bool false)], .agg [.lit (.int .i64 1), .lit (.int .i64 1), .lit (.bool true), .lit (.bool true), .lit (.bool true), .lit (.bool false)], .agg [.lit (.int .i64 1), .lit (.int .i64 1), .lit (.bool false), .lit (.bool false), .lit (.bool true), .lit (.bool true)], .agg [.lit (.int .i64 1), .lit (.int .i64 1), .lit (.bool false), .lit (.bool true), .lit (.bool false), .lit (.bool false)], .agg [.lit (.int .i64 2), .lit (.int .i64 2), .lit (.bool false), .lit (.bool false), .lit (.bool false), .lit (.bool false)], .agg [.lit (.int .i64 1), .lit (.int .i64 1), .lit (.bool true), .lit (.bool true), .lit (.bool true), .lit (.bool false)], .agg [.lit (.int .i64 1), .lit (.int .i64 1), .lit (.bool false), .lit (.bool false), .lit (.bool true), .lit (.bool true)]]
def laid_tidegate_scope_table {H : Type} : DataW H := .agg [.agg [.lit (.bool true), .lit (.bool true)], .agg [.lit (.bool true), .lit (.bool false)], .agg [.lit (.bool false), .lit (.bool false)], .agg [.lit (.bool true), .lit (.bool false)], .agg [.lit (.bool false), .lit (.bool false)], .agg [.lit (.bool true), .lit (.bool true)], .agg [.lit (.bool true), .lit (.bool false)], .agg [.lit (.bool true), .lit (.bool true)]]

/-- 'tidegatelaw15.ScopeUsable': WHATEVER THE INPUT: true; the input reads as it did. -/
def scopeUsableSpec : ChangeSpec := { name := "scopeUsable", fn := fun _ => fun
  | [d1, d2] => { results := [.lit (.bool true)], args := [d1, d2] }
  | _ => none }
def scopeUsableRow : OpenClaim := { program := "ytehpdnkachbakaagreatdoor", sum := "e30cbc5681dd0e3a7832045544f6fc0b22af8981eef2a28f7f09583fc001ba46", func := "tidegate/tidegatelaw15.ScopeUsable", spec := "scopeUsable", unfollowed := true, recurses := true, named := ["tidegate/pattern.shapes", "tidegate/scope.table"], loops := true, apart := false, laid := [("tidegate/pattern.shapes", laid_tidegate_pattern_shapes), ("tidegate/scope.table", laid_tidegate_scope_table)] }
def ScopeUsableSaid : Prop := scopeUsableRow.holds Tryz.pinned (OpenSpec.ofChange scopeUsableSpec)

/-- ITS FALSE NEIGHBOUR: 'it returns false'. Refute it at one input. -/
def scopeUsableWrong : ChangeSpec := { name := "scopeUsable", fn := fun _ => fun
  | [d1, d2] => { results := [.lit (.bool false)], args := [d1, d2] }
  | _ => none }
def ScopeUsableWrongFalsely : Prop := scopeUsableRow.holds Tryz.pinned (OpenSpec.ofChange scopeUsableWrong)

/-- 'tidegatelaw15.ScopeChecks': WHATEVER THE INPUT: true; the input reads as it did. -/
def scopeChecksSpec : ChangeSpec := { name := "scopeChecks", fn := fun _ => fun
  | [d] => { results := [.lit (.bool true)], args := [d] }
  | _ => none }
def scopeChecksRow : OpenClaim := { program := "ytehpdnkachbakaagreatdoor", sum := "e30cbc5681dd0e3a7832045544f6fc0b22af8981eef2a28f7f09583fc001ba46", func := "tidegate/tidegatelaw15.ScopeChecks", spec := "scopeChecks", unfollowed := true, recurses := true, named := ["tidegate/pattern.shapes", "tidegate/scope.table"], loops := true, apart := false, laid := [("tidegate/pattern.shapes", laid_tidegate_pattern_shapes), ("tidegate/scope.table", laid_tidegate_scope_table)] }
def ScopeChecksSaid : Prop := scopeChecksRow.holds Tryz.pinned (OpenSpec.ofChange scopeChecksSpec)

/-- ITS FALSE NEIGHBOUR: 'it returns false'. Refute it at one input. -/
def scopeChecksWrong : ChangeSpec := { name := "scopeChecks", fn := fun _ => fun
  | [d] => { results := [.lit (.bool false)], args := [d] }
  | _ => none }
def ScopeChecksWrongFalsely : Prop := scopeChecksRow.holds Tryz.pinned (OpenSpec.ofChange scopeChecksWrong)

/-- 'tidegatelaw15.ScopeReturns': WHATEVER THE INPUT: true; the input reads as it did. -/
def scopeReturnsSpec : ChangeSpec := { name := "scopeReturns", fn := fun _ => fun
  | [d1, d2] => { results := [.lit (.bool true)], args := [d1, d2] }
  | _ => none }
def scopeReturnsRow : OpenClaim := { program := "ytehpdnkachbakaagreatdoor", sum := "e30cbc5681dd0e3a7832045544f6fc0b22af8981eef2a28f7f09583fc001ba46", func := "tidegate/tidegatelaw15.ScopeReturns", spec := "scopeReturns", unfollowed := true, recurses := true, named := ["tidegate/pattern.shapes", "tidegate/scope.table"], loops := true, apart := false, laid := [("tidegate/pattern.shapes", laid_tidegate_pattern_shapes), ("tidegate/scope.table", laid_tidegate_scope_table)] }
def ScopeReturnsSaid : Prop := scopeReturnsRow.holds Tryz.pinned (OpenSpec.ofChange scopeReturnsSpec)

/-- ITS FALSE NEIGHBOUR: 'it returns false'. Refute it at one input. -/
def scopeReturnsWrong : ChangeSpec := { name := "scopeReturns", fn := fun _ => fun
  | [d1, d2] => { results := [.lit (.bool false)], args := [d1, d2] }
  | _ => none }
def ScopeReturnsWrongFalsely : Prop := scopeReturnsRow.holds Tryz.pinned (OpenSpec.ofChange scopeReturnsWrong)

/- THE SECOND FORM. 'bulk': how many values and letters a reading holds, each counted each time it is reached (what is shared counts as often as it is met; a slice's spare places count too). A statement '..UptoSaid' is the law's where the arguments, and the package variables that the reading takes, are together of bulk at most 1048576: NARROWER than '..Said'. Prove '..Said' where nothing that the law and all that it calls make is longer than what came in: it says more and counts as full. Else prove '..UptoSaid'. A law counts once. -/
mutual
def uptoBulk {H : Type} : DataW H → Nat
  | .lit (.string bytes) => bytes.length + 1
  | .lit _ => 1
  | .nil => 1
  | .ptr d => uptoBulk d + 1
  | .slice elems spare => uptoBulkAll elems + uptoBulkAll spare + 1
  | .agg parts => uptoBulkAll parts + 1
  | .iface _ d => uptoBulk d + 1
  | .map entries => uptoBulkEntries entries + 1
  | .held _ => 1
def uptoBulkAll {H : Type} : List (DataW H) → Nat
  | [] => 0
  | d :: r => uptoBulk d + uptoBulkAll r
def uptoBulkEntries {H : Type} : List (Lit × DataW H) → Nat
  | [] => 0
  | x :: r => uptoBulkEntry x + uptoBulkEntries r
def uptoBulkEntry {H : Type} : Lit × DataW H → Nat
  | (.string bytes, d) => bytes.length + uptoBulk d + 1
  | (_, d) => uptoBulk d + 1
 end
def uptoSmall : (H : Type) → List (DataW H) → Bool := fun _ ds => decide (uptoBulkAll ds ≤ 1048576)
def OpenSpec.upto (s : _root_.Go.ChangeSpec) : _root_.Go.OpenSpec := { _root_.Go.OpenSpec.ofChange s with cond := some uptoSmall }

/-- 'tidegatelaw15.ScopeUsable', WHERE WHAT IT READS IS OF BULK AT MOST 1048576: true; the input reads as it did. -/
def scopeUsableUptoRow : OpenClaim := { program := "ytehpdnkachbakaagreatdoor", sum := "e30cbc5681dd0e3a7832045544f6fc0b22af8981eef2a28f7f09583fc001ba46", func := "tidegate/tidegatelaw15.ScopeUsable", spec := "scopeUsable", unfollowed := true, recurses := true, named := ["tidegate/pattern.shapes", "tidegate/scope.table"], loops := true, apart := false, laid := [("tidegate/pattern.shapes", laid_tidegate_pattern_shapes), ("tidegate/scope.table", laid_tidegate_scope_table)], narrowed := true }
def ScopeUsableUptoSaid : Prop := scopeUsableUptoRow.holds Tryz.pinned (OpenSpec.upto scopeUsableSpec)

/-- 'tidegatelaw15.ScopeChecks', WHERE WHAT IT READS IS OF BULK AT MOST 1048576: true; the input reads as it did. -/
def scopeChecksUptoRow : OpenClaim := { program := "ytehpdnkachbakaagreatdoor", sum := "e30cbc5681dd0e3a7832045544f6fc0b22af8981eef2a28f7f09583fc001ba46", func := "tidegate/tidegatelaw15.ScopeChecks", spec := "scopeChecks", unfollowed := true, recurses := true, named := ["tidegate/pattern.shapes", "tidegate/scope.table"], loops := true, apart := false, laid := [("tidegate/pattern.shapes", laid_tidegate_pattern_shapes), ("tidegate/scope.table", laid_tidegate_scope_table)], narrowed := true }
def ScopeChecksUptoSaid : Prop := scopeChecksUptoRow.holds Tryz.pinned (OpenSpec.upto scopeChecksSpec)

/-- 'tidegatelaw15.ScopeReturns', WHERE WHAT IT READS IS OF BULK AT MOST 1048576: true; the input reads as it did. -/
def scopeReturnsUptoRow : OpenClaim := { program := "ytehpdnkachbakaagreatdoor", sum := "e30cbc5681dd0e3a7832045544f6fc0b22af8981eef2a28f7f09583fc001ba46", func := "tidegate/tidegatelaw15.ScopeReturns", spec := "scopeReturns", unfollowed := true, recurses := true, named := ["tidegate/pattern.shapes", "tidegate/scope.table"], loops := true, apart := false, laid := [("tidegate/pattern.shapes", laid_tidegate_pattern_shapes), ("tidegate/scope.table", laid_tidegate_scope_table)], narrowed := true }
def ScopeReturnsUptoSaid : Prop := scopeReturnsUptoRow.holds Tryz.pinned (OpenSpec.upto scopeReturnsSpec)

end Rows
end Go.Proofs.YtehpdnkachbakaaGreatDoor
