/-
  NARROWER THAN 'FOR EVERY INPUT', by the rows' own cells (each row's printed sentence says how): ScopeWraps: loops, laid · ScopeRepeats: loops, laid · ScopeNests: loops, laid · ScopePrecedes: loops, laid.
  DERIVED. THE GIVEN ROWS OF THIS SEAT. 4 by the template 'for every input the law returns true; each argument reads behind the call as it read before'; 0 by the template 'total and deterministic' (their statements: YtehpdnkachbakaaDoorTotals.lean).
  GIVEN WITH THE SEED: the statements are not yours to turn. If you find one false, say at which input.
  Laid BY PROGRAM, IN A SANDBOX (cutbox-rows.mjs): the forced cells as the released guide's own fill.sh prints them over the translation 666ca9a8ae7bfa74… (all of the seat's roots in one cut). By AI agents, Wed Nov 11 2026. No macro, syntax, notation, axiom, sorry.
-/
import Derived.Test.YtehpdnkachbakaaDoorChecked
import GoSem.Claim
import GoSem.ClaimJoined
import GoSem.ClaimMapViews
import Derived.JoinedTies
import Derived.KernelRfl
namespace Go.Proofs.YtehpdnkachbakaaDoor
/- THE CELL 'sum', in the pinned program and in every row, IS THE sha256 OF THE DUMP (.gsa) THAT YtehpdnkachbakaaDoorProg.lean LOADS. Nothing in Lean hashes anything: it is a label: what it is worth is what the hold of that sum in a sandbox is worth. -/
noncomputable def Tryd.pinned : Pinned := { name := "ytehpdnkachbakaadoor", sum := "666ca9a8ae7bfa74d856292e4778c813ec3741b0087cbdf977a4aaa6c52904ea", checked := Tryd.checked }
namespace Rows
def none {H : Type} : Left H := { results := [], args := [] }

/- WHAT THE LISTED PACKAGE-LEVEL VARIABLES READ AS WHEN THE CALL BEGINS. Each datum BY PROGRAM (the guide's laid-datum.mjs) off the statement by which the dump's own 'gosem.cut.vars' lays the variable. In a bare row this is a premise. The card (YtehpdnkachbakaaDoorCards.lean) ties it to the program's text. -/
def laid_tidegate_pattern_shapes {H : Type} : DataW H := .agg [.agg [.lit (.int .i64 0), .lit (.int .i64 0), .lit (.bool true), .lit (.bool true), .lit (.bool false), .lit (.bool false)], .agg [.lit (.int .i64 2), .lit (.int .i64 64), .lit (.bool false), .lit (.bool false), .lit (.bool false), .lit (.bool false)], .agg [.lit (.int .i64 2), .lit (.int .i64 64), .lit (.bool false), .lit (.bool false), .lit (.bool false), .lit (.bool false)], .agg [.lit (.int .i64 2), .lit (.int .i64 64), .lit (.bool false), .lit (.bool false), .lit (.bool false), .lit (.bool false)], .agg [.lit (.int .i64 1), .lit (.int .i64 1), .lit (.bool false), .lit (.bool false), .lit (.bool false), .lit (.bool false)], .agg [.lit (.int .i64 1), .lit (.int .i64 1), .lit (.bool true), .lit (.bool true), .lit (.bool true), .lit (.bool false)], .agg [.lit (.int .i64 1), .lit (.int .i64 1), .lit (.bool false), .lit (.bool false), .lit (.bool true), .lit (.bool true)], .agg [.lit (.int .i64 1), .lit (.int .i64 1), .lit (.bool false), .lit (.bool true), .lit (.bool false), .lit (.bool false)], .agg [.lit (.int .i64 2), .lit (.int .i64 2), .lit (.bool false), .lit (.bool false), .lit (.bool false), .lit (.bool false)], .agg [.lit (.int .i64 1), .lit (.int .i64 1), .lit (.bool true), .lit (.bool true), .lit (.bool true), .lit (.bool false)], .agg [.lit (.int .i64 1), .lit (.int .i64 1), .lit (.bool false), .lit (.bool false), .lit (.bool true), .lit (.bool true)]]
def laid_tidegate_scope_table {H : Type} : DataW H := .agg [.agg [.lit (.bool true), .lit (.bool true)], .agg [.lit (.bool true), .lit (.bool false)], .agg [.lit (.bool false), .lit (.bool false)], .agg [.lit (.bool true), .lit (.bool false)], .agg [.lit (.bool false), .lit (.bool false)], .agg [.lit (.bool true), .lit (.bool true)], .agg [.lit (.bool true), .lit (.bool false)], .agg [.lit (.bool true), .lit (.bool true)]]

/-- 'tidegatelaw15.ScopeWraps': WHATEVER THE INPUT: true; the input reads as it did. -/
def scopeWrapsSpec : ChangeSpec := { name := "scopeWraps", fn := fun _ => fun
  | [d1, d2] => { results := [.lit (.bool true)], args := [d1, d2] }
  | _ => none }
def scopeWrapsRow : OpenClaim := { program := "ytehpdnkachbakaadoor", sum := "666ca9a8ae7bfa74d856292e4778c813ec3741b0087cbdf977a4aaa6c52904ea", func := "tidegate/tidegatelaw15.ScopeWraps", spec := "scopeWraps", unfollowed := true, recurses := true, named := ["tidegate/pattern.shapes", "tidegate/scope.table"], loops := true, apart := false, laid := [("tidegate/pattern.shapes", laid_tidegate_pattern_shapes), ("tidegate/scope.table", laid_tidegate_scope_table)] }
def ScopeWrapsSaid : Prop := scopeWrapsRow.holds Tryd.pinned (OpenSpec.ofChange scopeWrapsSpec)

/-- ITS FALSE NEIGHBOUR: 'it returns false'. Refute it at one input. -/
def scopeWrapsWrong : ChangeSpec := { name := "scopeWraps", fn := fun _ => fun
  | [d1, d2] => { results := [.lit (.bool false)], args := [d1, d2] }
  | _ => none }
def ScopeWrapsWrongFalsely : Prop := scopeWrapsRow.holds Tryd.pinned (OpenSpec.ofChange scopeWrapsWrong)

/-- 'tidegatelaw15.ScopeRepeats': WHATEVER THE INPUT: true; the input reads as it did. -/
def scopeRepeatsSpec : ChangeSpec := { name := "scopeRepeats", fn := fun _ => fun
  | [d1, d2] => { results := [.lit (.bool true)], args := [d1, d2] }
  | _ => none }
def scopeRepeatsRow : OpenClaim := { program := "ytehpdnkachbakaadoor", sum := "666ca9a8ae7bfa74d856292e4778c813ec3741b0087cbdf977a4aaa6c52904ea", func := "tidegate/tidegatelaw15.ScopeRepeats", spec := "scopeRepeats", unfollowed := true, recurses := true, named := ["tidegate/pattern.shapes", "tidegate/scope.table"], loops := true, apart := false, laid := [("tidegate/pattern.shapes", laid_tidegate_pattern_shapes), ("tidegate/scope.table", laid_tidegate_scope_table)] }
def ScopeRepeatsSaid : Prop := scopeRepeatsRow.holds Tryd.pinned (OpenSpec.ofChange scopeRepeatsSpec)

/-- ITS FALSE NEIGHBOUR: 'it returns false'. Refute it at one input. -/
def scopeRepeatsWrong : ChangeSpec := { name := "scopeRepeats", fn := fun _ => fun
  | [d1, d2] => { results := [.lit (.bool false)], args := [d1, d2] }
  | _ => none }
def ScopeRepeatsWrongFalsely : Prop := scopeRepeatsRow.holds Tryd.pinned (OpenSpec.ofChange scopeRepeatsWrong)

/-- 'tidegatelaw15.ScopeNests': WHATEVER THE INPUT: true; the input reads as it did. -/
def scopeNestsSpec : ChangeSpec := { name := "scopeNests", fn := fun _ => fun
  | [d] => { results := [.lit (.bool true)], args := [d] }
  | _ => none }
def scopeNestsRow : OpenClaim := { program := "ytehpdnkachbakaadoor", sum := "666ca9a8ae7bfa74d856292e4778c813ec3741b0087cbdf977a4aaa6c52904ea", func := "tidegate/tidegatelaw15.ScopeNests", spec := "scopeNests", unfollowed := true, recurses := true, named := ["tidegate/pattern.shapes", "tidegate/scope.table"], loops := true, apart := false, laid := [("tidegate/pattern.shapes", laid_tidegate_pattern_shapes), ("tidegate/scope.table", laid_tidegate_scope_table)] }
def ScopeNestsSaid : Prop := scopeNestsRow.holds Tryd.pinned (OpenSpec.ofChange scopeNestsSpec)

/-- ITS FALSE NEIGHBOUR: 'it returns false'. Refute it at one input. -/
def scopeNestsWrong : ChangeSpec := { name := "scopeNests", fn := fun _ => fun
  | [d] => { results := [.lit (.bool false)], args := [d] }
  | _ => none }
def ScopeNestsWrongFalsely : Prop := scopeNestsRow.holds Tryd.pinned (OpenSpec.ofChange scopeNestsWrong)

/-- 'tidegatelaw15.ScopePrecedes': WHATEVER THE INPUT: true; the input reads as it did. -/
def scopePrecedesSpec : ChangeSpec := { name := "scopePrecedes", fn := fun _ => fun
  | [d] => { results := [.lit (.bool true)], args := [d] }
  | _ => none }
def scopePrecedesRow : OpenClaim := { program := "ytehpdnkachbakaadoor", sum := "666ca9a8ae7bfa74d856292e4778c813ec3741b0087cbdf977a4aaa6c52904ea", func := "tidegate/tidegatelaw15.ScopePrecedes", spec := "scopePrecedes", unfollowed := true, recurses := true, named := ["tidegate/pattern.shapes", "tidegate/scope.table"], loops := true, apart := false, laid := [("tidegate/pattern.shapes", laid_tidegate_pattern_shapes), ("tidegate/scope.table", laid_tidegate_scope_table)] }
def ScopePrecedesSaid : Prop := scopePrecedesRow.holds Tryd.pinned (OpenSpec.ofChange scopePrecedesSpec)

/-- ITS FALSE NEIGHBOUR: 'it returns false'. Refute it at one input. -/
def scopePrecedesWrong : ChangeSpec := { name := "scopePrecedes", fn := fun _ => fun
  | [d] => { results := [.lit (.bool false)], args := [d] }
  | _ => none }
def ScopePrecedesWrongFalsely : Prop := scopePrecedesRow.holds Tryd.pinned (OpenSpec.ofChange scopePrecedesWrong)

/- THE SECOND FORM. 'bulk': how many values and letters a reading holds, each counted each time it is reached (what is shared counts as often as it is met; a slice's spare places count too). A statement '..UptoSaid' is the law's where the arguments, and the package variables that the reading takes, are together of bulk at most 1048576: NARROWER than '..Said'. Prove '..Said' where nothing that the law and all that it calls make is longer than what came in: it says more and counts as full. Else prove '..UptoSaid'. A law counts once. -/
mutual
def uptoBulk {H : Type} : DataW H → Nat
  | .lit (.string bytes) => bytes.length + 1
  | .lit _ => 1
  | .nil => 1
  | .ptr d => uptoBulk d + 1
  | .slice elems spare => uptoBulkAll elems + uptoBulkAll spare + 1
  | .agg parts => uptoBulkAll parts + 1
  | .iface _ d => uptoBulk d + 1
  | .map entries => uptoBulkEntries entries + 1
  | .held _ => 1
def uptoBulkAll {H : Type} : List (DataW H) → Nat
  | [] => 0
  | d :: r => uptoBulk d + uptoBulkAll r
def uptoBulkEntries {H : Type} : List (Lit × DataW H) → Nat
  | [] => 0
  | x :: r => uptoBulkEntry x + uptoBulkEntries r
def uptoBulkEntry {H : Type} : Lit × DataW H → Nat
  | (.string bytes, d) => bytes.length + uptoBulk d + 1
  | (_, d) => uptoBulk d + 1
 end
def uptoSmall : (H : Type) → List (DataW H) → Bool := fun _ ds => decide (uptoBulkAll ds ≤ 1048576)
def OpenSpec.upto (s : _root_.Go.ChangeSpec) : _root_.Go.OpenSpec := { _root_.Go.OpenSpec.ofChange s with cond := some uptoSmall }

/-- 'tidegatelaw15.ScopeWraps', WHERE WHAT IT READS IS OF BULK AT MOST 1048576: true; the input reads as it did. -/
def scopeWrapsUptoRow : OpenClaim := { program := "ytehpdnkachbakaadoor", sum := "666ca9a8ae7bfa74d856292e4778c813ec3741b0087cbdf977a4aaa6c52904ea", func := "tidegate/tidegatelaw15.ScopeWraps", spec := "scopeWraps", unfollowed := true, recurses := true, named := ["tidegate/pattern.shapes", "tidegate/scope.table"], loops := true, apart := false, laid := [("tidegate/pattern.shapes", laid_tidegate_pattern_shapes), ("tidegate/scope.table", laid_tidegate_scope_table)], narrowed := true }
def ScopeWrapsUptoSaid : Prop := scopeWrapsUptoRow.holds Tryd.pinned (OpenSpec.upto scopeWrapsSpec)

/-- 'tidegatelaw15.ScopeRepeats', WHERE WHAT IT READS IS OF BULK AT MOST 1048576: true; the input reads as it did. -/
def scopeRepeatsUptoRow : OpenClaim := { program := "ytehpdnkachbakaadoor", sum := "666ca9a8ae7bfa74d856292e4778c813ec3741b0087cbdf977a4aaa6c52904ea", func := "tidegate/tidegatelaw15.ScopeRepeats", spec := "scopeRepeats", unfollowed := true, recurses := true, named := ["tidegate/pattern.shapes", "tidegate/scope.table"], loops := true, apart := false, laid := [("tidegate/pattern.shapes", laid_tidegate_pattern_shapes), ("tidegate/scope.table", laid_tidegate_scope_table)], narrowed := true }
def ScopeRepeatsUptoSaid : Prop := scopeRepeatsUptoRow.holds Tryd.pinned (OpenSpec.upto scopeRepeatsSpec)

/-- 'tidegatelaw15.ScopeNests', WHERE WHAT IT READS IS OF BULK AT MOST 1048576: true; the input reads as it did. -/
def scopeNestsUptoRow : OpenClaim := { program := "ytehpdnkachbakaadoor", sum := "666ca9a8ae7bfa74d856292e4778c813ec3741b0087cbdf977a4aaa6c52904ea", func := "tidegate/tidegatelaw15.ScopeNests", spec := "scopeNests", unfollowed := true, recurses := true, named := ["tidegate/pattern.shapes", "tidegate/scope.table"], loops := true, apart := false, laid := [("tidegate/pattern.shapes", laid_tidegate_pattern_shapes), ("tidegate/scope.table", laid_tidegate_scope_table)], narrowed := true }
def ScopeNestsUptoSaid : Prop := scopeNestsUptoRow.holds Tryd.pinned (OpenSpec.upto scopeNestsSpec)

/-- 'tidegatelaw15.ScopePrecedes', WHERE WHAT IT READS IS OF BULK AT MOST 1048576: true; the input reads as it did. -/
def scopePrecedesUptoRow : OpenClaim := { program := "ytehpdnkachbakaadoor", sum := "666ca9a8ae7bfa74d856292e4778c813ec3741b0087cbdf977a4aaa6c52904ea", func := "tidegate/tidegatelaw15.ScopePrecedes", spec := "scopePrecedes", unfollowed := true, recurses := true, named := ["tidegate/pattern.shapes", "tidegate/scope.table"], loops := true, apart := false, laid := [("tidegate/pattern.shapes", laid_tidegate_pattern_shapes), ("tidegate/scope.table", laid_tidegate_scope_table)], narrowed := true }
def ScopePrecedesUptoSaid : Prop := scopePrecedesUptoRow.holds Tryd.pinned (OpenSpec.upto scopePrecedesSpec)

end Rows
end Go.Proofs.YtehpdnkachbakaaDoor
