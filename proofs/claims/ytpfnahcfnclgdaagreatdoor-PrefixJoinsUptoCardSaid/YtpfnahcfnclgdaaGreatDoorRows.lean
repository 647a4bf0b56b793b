/-
  NARROWER THAN 'FOR EVERY INPUT', by the rows' own cells (each row's printed sentence says how): PrefixSplits: loops, laid · PrefixBuilds: loops, laid · PrefixChecks: loops, laid · PrefixJoins: loops, laid · PrefixRepeats: loops, laid · PrefixFollows: loops, laid · PrefixLeads: loops, laid · PrefixReaches: loops, laid.
  DERIVED. THE GIVEN ROWS OF THIS SEAT. 8 by the template 'for every input the law returns true; each argument reads behind the call as it read before'; 0 by the template 'total and deterministic' (their statements: YtpfnahcfnclgdaaGreatDoorTotals.lean).
  GIVEN WITH THE SEED: the statements are not yours to turn. If you find one false, say at which input.
  Laid BY PROGRAM, IN A SANDBOX (cutbox-rows.mjs): the forced cells as the released guide's own fill.sh prints them over the translation 5a02eb63b003eecc… (all of the seat's roots in one cut). By AI agents, Wed Nov 11 2026. No macro, syntax, notation, axiom, sorry.
-/
import Derived.Test.YtpfnahcfnclgdaaGreatDoorChecked
import GoSem.Claim
import GoSem.ClaimJoined
import GoSem.ClaimMapViews
import Derived.JoinedTies
import Derived.KernelRfl
namespace Go.Proofs.YtpfnahcfnclgdaaGreatDoor
/- THE CELL 'sum', in the pinned program and in every row, IS THE sha256 OF THE DUMP (.gsa) THAT YtpfnahcfnclgdaaGreatDoorProg.lean LOADS. Nothing in Lean hashes anything: it is a label: what it is worth is what the hold of that sum in a sandbox is worth. -/
noncomputable def Tryz.pinned : Pinned := { name := "ytpfnahcfnclgdaagreatdoor", sum := "5a02eb63b003eecc8b334754d09e2cdb20514279381748b13f816b2bf9e52a6d", checked := Tryz.checked }
namespace Rows
def none {H : Type} : Left H := { results := [], args := [] }

/- WHAT THE LISTED PACKAGE-LEVEL VARIABLES READ AS WHEN THE CALL BEGINS. Each datum BY PROGRAM (the guide's laid-datum.mjs) off the statement by which the dump's own 'gosem.cut.vars' lays the variable. In a bare row this is a premise. The card (YtpfnahcfnclgdaaGreatDoorCards.lean) ties it to the program's text. -/
def laid_tidegate_pattern_shapes {H : Type} : DataW H := .agg [.agg [.lit (.int .i64 0), .lit (.int .i64 0), .lit (.bool true), .lit (.bool true), .lit (.bool false), .lit (.bool false)], .agg [.lit (.int .i64 2), .lit (.int .i64 64), .lit (.bool false), .lit (.bool false), .lit (.bool false), .lit (.bool false)], .agg [.lit (.int .i64 2), .lit (.int .i64 64), .lit (.bool false), .lit (.bool false), .lit (.bool false), .lit (.bool false)], .agg [.lit (.int .i64 2), .lit (.int .i64 64), .lit (.bool false), .lit (.bool false), .lit (.bool false), .lit (.bool false)], .agg [.lit (.int .i64 1), .lit (.int .i64 1), .lit (.bool false), .lit (.bool false), .lit (.bool false), .lit (.bool false)], .agg [.lit (.int .i64 1), .lit (.int .i64 1), .lit (.bool true), .lit (.bool true), .lit (.bool true), .lit (.bool false)], .agg [.lit (.int .i64 1), .lit (.int .i64 1), .lit (.bool false), .lit (.bool false), .lit (.bool true), .lit (.bool true)], .agg [.lit (.int .i64 1), .lit (.int .i64 1), .lit (.bool false), .lit (.bool true), .lit (.bool false), .lit (.bool false)], .agg [.lit (.int .i64 2), .lit (.int .i64 2), .lit (.bool false), .lit (.bool false), .lit (.bool false), .lit (.bool false)], .agg [.lit (.int .i64 1), .lit (.int .i64 1), .lit (.bool true), .lit (.bool true), .lit (.bool true), .lit (.bool false)], .agg [.lit (.int .i64 1), .lit (.int .i64 1), .lit (.bool false), .lit (.bool false), .lit (.bool true), .lit (.bool true)]]

/-- 'tidegatelaw32.PrefixSplits': WHATEVER THE INPUT: true; the input reads as it did. -/
def prefixSplitsSpec : ChangeSpec := { name := "prefixSplits", fn := fun _ => fun
  | [d] => { results := [.lit (.bool true)], args := [d] }
  | _ => none }
def prefixSplitsRow : OpenClaim := { program := "ytpfnahcfnclgdaagreatdoor", sum := "5a02eb63b003eecc8b334754d09e2cdb20514279381748b13f816b2bf9e52a6d", func := "tidegate/tidegatelaw32.PrefixSplits", spec := "prefixSplits", inPlace := ["slices.overlaps[tidegate/api.Pattern]"], unfollowed := true, recurses := true, named := ["tidegate/pattern.shapes"], loops := true, apart := false, laid := [("tidegate/pattern.shapes", laid_tidegate_pattern_shapes)] }
def PrefixSplitsSaid : Prop := prefixSplitsRow.holds Tryz.pinned (OpenSpec.ofChange prefixSplitsSpec)

/-- ITS FALSE NEIGHBOUR: 'it returns false'. Refute it at one input. -/
def prefixSplitsWrong : ChangeSpec := { name := "prefixSplits", fn := fun _ => fun
  | [d] => { results := [.lit (.bool false)], args := [d] }
  | _ => none }
def PrefixSplitsWrongFalsely : Prop := prefixSplitsRow.holds Tryz.pinned (OpenSpec.ofChange prefixSplitsWrong)

/-- 'tidegatelaw32.PrefixBuilds': WHATEVER THE INPUT: true; the input reads as it did. -/
def prefixBuildsSpec : ChangeSpec := { name := "prefixBuilds", fn := fun _ => fun
  | [d] => { results := [.lit (.bool true)], args := [d] }
  | _ => none }
def prefixBuildsRow : OpenClaim := { program := "ytpfnahcfnclgdaagreatdoor", sum := "5a02eb63b003eecc8b334754d09e2cdb20514279381748b13f816b2bf9e52a6d", func := "tidegate/tidegatelaw32.PrefixBuilds", spec := "prefixBuilds", inPlace := ["slices.overlaps[tidegate/api.Pattern]"], unfollowed := true, recurses := true, named := ["tidegate/pattern.shapes"], loops := true, apart := false, laid := [("tidegate/pattern.shapes", laid_tidegate_pattern_shapes)] }
def PrefixBuildsSaid : Prop := prefixBuildsRow.holds Tryz.pinned (OpenSpec.ofChange prefixBuildsSpec)

/-- ITS FALSE NEIGHBOUR: 'it returns false'. Refute it at one input. -/
def prefixBuildsWrong : ChangeSpec := { name := "prefixBuilds", fn := fun _ => fun
  | [d] => { results := [.lit (.bool false)], args := [d] }
  | _ => none }
def PrefixBuildsWrongFalsely : Prop := prefixBuildsRow.holds Tryz.pinned (OpenSpec.ofChange prefixBuildsWrong)

/-- 'tidegatelaw32.PrefixChecks': WHATEVER THE INPUT: true; the input reads as it did. -/
def prefixChecksSpec : ChangeSpec := { name := "prefixChecks", fn := fun _ => fun
  | [d] => { results := [.lit (.bool true)], args := [d] }
  | _ => none }
def prefixChecksRow : OpenClaim := { program := "ytpfnahcfnclgdaagreatdoor", sum := "5a02eb63b003eecc8b334754d09e2cdb20514279381748b13f816b2bf9e52a6d", func := "tidegate/tidegatelaw32.PrefixChecks", spec := "prefixChecks", inPlace := ["slices.overlaps[tidegate/api.Pattern]"], unfollowed := true, recurses := true, named := ["tidegate/pattern.shapes"], loops := true, apart := false, laid := [("tidegate/pattern.shapes", laid_tidegate_pattern_shapes)] }
def PrefixChecksSaid : Prop := prefixChecksRow.holds Tryz.pinned (OpenSpec.ofChange prefixChecksSpec)

/-- ITS FALSE NEIGHBOUR: 'it returns false'. Refute it at one input. -/
def prefixChecksWrong : ChangeSpec := { name := "prefixChecks", fn := fun _ => fun
  | [d] => { results := [.lit (.bool false)], args := [d] }
  | _ => none }
def PrefixChecksWrongFalsely : Prop := prefixChecksRow.holds Tryz.pinned (OpenSpec.ofChange prefixChecksWrong)

/-- 'tidegatelaw32.PrefixJoins': WHATEVER THE INPUT: true; the input reads as it did. -/
def prefixJoinsSpec : ChangeSpec := { name := "prefixJoins", fn := fun _ => fun
  | [d] => { results := [.lit (.bool true)], args := [d] }
  | _ => none }
def prefixJoinsRow : OpenClaim := { program := "ytpfnahcfnclgdaagreatdoor", sum := "5a02eb63b003eecc8b334754d09e2cdb20514279381748b13f816b2bf9e52a6d", func := "tidegate/tidegatelaw32.PrefixJoins", spec := "prefixJoins", inPlace := ["slices.overlaps[tidegate/api.Pattern]"], unfollowed := true, recurses := true, named := ["tidegate/pattern.shapes"], loops := true, apart := false, laid := [("tidegate/pattern.shapes", laid_tidegate_pattern_shapes)] }
def PrefixJoinsSaid : Prop := prefixJoinsRow.holds Tryz.pinned (OpenSpec.ofChange prefixJoinsSpec)

/-- ITS FALSE NEIGHBOUR: 'it returns false'. Refute it at one input. -/
def prefixJoinsWrong : ChangeSpec := { name := "prefixJoins", fn := fun _ => fun
  | [d] => { results := [.lit (.bool false)], args := [d] }
  | _ => none }
def PrefixJoinsWrongFalsely : Prop := prefixJoinsRow.holds Tryz.pinned (OpenSpec.ofChange prefixJoinsWrong)

/-- 'tidegatelaw32.PrefixRepeats': WHATEVER THE INPUT: true; the input reads as it did. -/
def prefixRepeatsSpec : ChangeSpec := { name := "prefixRepeats", fn := fun _ => fun
  | [d1, d2] => { results := [.lit (.bool true)], args := [d1, d2] }
  | _ => none }
def prefixRepeatsRow : OpenClaim := { program := "ytpfnahcfnclgdaagreatdoor", sum := "5a02eb63b003eecc8b334754d09e2cdb20514279381748b13f816b2bf9e52a6d", func := "tidegate/tidegatelaw32.PrefixRepeats", spec := "prefixRepeats", inPlace := ["slices.overlaps[tidegate/api.Pattern]"], unfollowed := true, recurses := true, named := ["tidegate/pattern.shapes"], loops := true, apart := false, laid := [("tidegate/pattern.shapes", laid_tidegate_pattern_shapes)] }
def PrefixRepeatsSaid : Prop := prefixRepeatsRow.holds Tryz.pinned (OpenSpec.ofChange prefixRepeatsSpec)

/-- ITS FALSE NEIGHBOUR: 'it returns false'. Refute it at one input. -/
def prefixRepeatsWrong : ChangeSpec := { name := "prefixRepeats", fn := fun _ => fun
  | [d1, d2] => { results := [.lit (.bool false)], args := [d1, d2] }
  | _ => none }
def PrefixRepeatsWrongFalsely : Prop := prefixRepeatsRow.holds Tryz.pinned (OpenSpec.ofChange prefixRepeatsWrong)

/-- 'tidegatelaw32.PrefixFollows': WHATEVER THE INPUT: true; the input reads as it did. -/
def prefixFollowsSpec : ChangeSpec := { name := "prefixFollows", fn := fun _ => fun
  | [d1, d2] => { results := [.lit (.bool true)], args := [d1, d2] }
  | _ => none }
def prefixFollowsRow : OpenClaim := { program := "ytpfnahcfnclgdaagreatdoor", sum := "5a02eb63b003eecc8b334754d09e2cdb20514279381748b13f816b2bf9e52a6d", func := "tidegate/tidegatelaw32.PrefixFollows", spec := "prefixFollows", inPlace := ["slices.overlaps[tidegate/api.Pattern]"], unfollowed := true, recurses := true, named := ["tidegate/pattern.shapes"], loops := true, apart := false, laid := [("tidegate/pattern.shapes", laid_tidegate_pattern_shapes)] }
def PrefixFollowsSaid : Prop := prefixFollowsRow.holds Tryz.pinned (OpenSpec.ofChange prefixFollowsSpec)

/-- ITS FALSE NEIGHBOUR: 'it returns false'. Refute it at one input. -/
def prefixFollowsWrong : ChangeSpec := { name := "prefixFollows", fn := fun _ => fun
  | [d1, d2] => { results := [.lit (.bool false)], args := [d1, d2] }
  | _ => none }
def PrefixFollowsWrongFalsely : Prop := prefixFollowsRow.holds Tryz.pinned (OpenSpec.ofChange prefixFollowsWrong)

/-- 'tidegatelaw32.PrefixLeads': WHATEVER THE INPUT: true; the input reads as it did. -/
def prefixLeadsSpec : ChangeSpec := { name := "prefixLeads", fn := fun _ => fun
  | [d] => { results := [.lit (.bool true)], args := [d] }
  | _ => none }
def prefixLeadsRow : OpenClaim := { program := "ytpfnahcfnclgdaagreatdoor", sum := "5a02eb63b003eecc8b334754d09e2cdb20514279381748b13f816b2bf9e52a6d", func := "tidegate/tidegatelaw32.PrefixLeads", spec := "prefixLeads", inPlace := ["slices.overlaps[tidegate/api.Pattern]"], unfollowed := true, recurses := true, named := ["tidegate/pattern.shapes"], loops := true, apart := false, laid := [("tidegate/pattern.shapes", laid_tidegate_pattern_shapes)] }
def PrefixLeadsSaid : Prop := prefixLeadsRow.holds Tryz.pinned (OpenSpec.ofChange prefixLeadsSpec)

/-- ITS FALSE NEIGHBOUR: 'it returns false'. Refute it at one input. -/
def prefixLeadsWrong : ChangeSpec := { name := "prefixLeads", fn := fun _ => fun
  | [d] => { results := [.lit (.bool false)], args := [d] }
  | _ => none }
def PrefixLeadsWrongFalsely : Prop := prefixLeadsRow.holds Tryz.pinned (OpenSpec.ofChange prefixLeadsWrong)

/-- 'tidegatelaw32.PrefixReaches': WHATEVER THE INPUT: true; the input reads as it did. -/
def prefixReachesSpec : ChangeSpec := { name := "prefixReaches", fn := fun _ => fun
  | [d] => { results := [.lit (.bool true)], args := [d] }
  | _ => none }
def prefixReachesRow : OpenClaim := { program := "ytpfnahcfnclgdaagreatdoor", sum := "5a02eb63b003eecc8b334754d09e2cdb20514279381748b13f816b2bf9e52a6d", func := "tidegate/tidegatelaw32.PrefixReaches", spec := "prefixReaches", inPlace := ["slices.overlaps[tidegate/api.Pattern]"], unfollowed := true, recurses := true, named := ["tidegate/pattern.shapes"], loops := true, apart := false, laid := [("tidegate/pattern.shapes", laid_tidegate_pattern_shapes)] }
def PrefixReachesSaid : Prop := prefixReachesRow.holds Tryz.pinned (OpenSpec.ofChange prefixReachesSpec)

/-- ITS FALSE NEIGHBOUR: 'it returns false'. Refute it at one input. -/
def prefixReachesWrong : ChangeSpec := { name := "prefixReaches", fn := fun _ => fun
  | [d] => { results := [.lit (.bool false)], args := [d] }
  | _ => none }
def PrefixReachesWrongFalsely : Prop := prefixReachesRow.holds Tryz.pinned (OpenSpec.ofChange prefixReachesWrong)

/- THE SECOND FORM. 'bulk': how many values and letters a reading holds, each counted each time it is reached (what is shared counts as often as it is met; a slice's spare places count too). A statement '..UptoSaid' is the law's where the arguments, and the package variables that the reading takes, are together of bulk at most 1048576: NARROWER than '..Said'. Prove '..Said' where nothing that the law and all that it calls make is longer than what came in: it says more and counts as full. Else prove '..UptoSaid'. A law counts once. -/
mutual
def uptoBulk {H : Type} : DataW H → Nat
  | .lit (.string bytes) => bytes.length + 1
  | .lit _ => 1
  | .nil => 1
  | .ptr d => uptoBulk d + 1
  | .slice elems spare => uptoBulkAll elems + uptoBulkAll spare + 1
  | .agg parts => uptoBulkAll parts + 1
  | .iface _ d => uptoBulk d + 1
  | .map entries => uptoBulkEntries entries + 1
  | .held _ => 1
def uptoBulkAll {H : Type} : List (DataW H) → Nat
  | [] => 0
  | d :: r => uptoBulk d + uptoBulkAll r
def uptoBulkEntries {H : Type} : List (Lit × DataW H) → Nat
  | [] => 0
  | x :: r => uptoBulkEntry x + uptoBulkEntries r
def uptoBulkEntry {H : Type} : Lit × DataW H → Nat
  | (.string bytes, d) => bytes.length + uptoBulk d + 1
  | (_, d) => uptoBulk d + 1
 end
def uptoSmall : (H : Type) → List (DataW H) → Bool := fun _ ds => decide (uptoBulkAll ds ≤ 1048576)
def OpenSpec.upto (s : _root_.Go.ChangeSpec) : _root_.Go.OpenSpec := { _root_.Go.OpenSpec.ofChange s with cond := some uptoSmall }

/-- 'tidegatelaw32.PrefixSplits', WHERE WHAT IT READS IS OF BULK AT MOST 1048576: true; the input reads as it did. -/
def prefixSplitsUptoRow : OpenClaim := { program := "ytpfnahcfnclgdaagreatdoor", sum := "5a02eb63b003eecc8b334754d09e2cdb20514279381748b13f816b2bf9e52a6d", func := "tidegate/tidegatelaw32.PrefixSplits", spec := "prefixSplits", inPlace := ["slices.overlaps[tidegate/api.Pattern]"], unfollowed := true, recurses := true, named := ["tidegate/pattern.shapes"], loops := true, apart := false, laid := [("tidegate/pattern.shapes", laid_tidegate_pattern_shapes)], narrowed := true }
def PrefixSplitsUptoSaid : Prop := prefixSplitsUptoRow.holds Tryz.pinned (OpenSpec.upto prefixSplitsSpec)

/-- 'tidegatelaw32.PrefixBuilds', WHERE WHAT IT READS IS OF BULK AT MOST 1048576: true; the input reads as it did. -/
def prefixBuildsUptoRow : OpenClaim := { program := "ytpfnahcfnclgdaagreatdoor", sum := "5a02eb63b003eecc8b334754d09e2cdb20514279381748b13f816b2bf9e52a6d", func := "tidegate/tidegatelaw32.PrefixBuilds", spec := "prefixBuilds", inPlace := ["slices.overlaps[tidegate/api.Pattern]"], unfollowed := true, recurses := true, named := ["tidegate/pattern.shapes"], loops := true, apart := false, laid := [("tidegate/pattern.shapes", laid_tidegate_pattern_shapes)], narrowed := true }
def PrefixBuildsUptoSaid : Prop := prefixBuildsUptoRow.holds Tryz.pinned (OpenSpec.upto prefixBuildsSpec)

/-- 'tidegatelaw32.PrefixChecks', WHERE WHAT IT READS IS OF BULK AT MOST 1048576: true; the input reads as it did. -/
def prefixChecksUptoRow : OpenClaim := { program := "ytpfnahcfnclgdaagreatdoor", sum := "5a02eb63b003eecc8b334754d09e2cdb20514279381748b13f816b2bf9e52a6d", func := "tidegate/tidegatelaw32.PrefixChecks", spec := "prefixChecks", inPlace := ["slices.overlaps[tidegate/api.Pattern]"], unfollowed := true, recurses := true, named := ["tidegate/pattern.shapes"], loops := true, apart := false, laid := [("tidegate/pattern.shapes", laid_tidegate_pattern_shapes)], narrowed := true }
def PrefixChecksUptoSaid : Prop := prefixChecksUptoRow.holds Tryz.pinned (OpenSpec.upto prefixChecksSpec)

/-- 'tidegatelaw32.PrefixJoins', WHERE WHAT IT READS IS OF BULK AT MOST 1048576: true; the input reads as it did. -/
def prefixJoinsUptoRow : OpenClaim := { program := "ytpfnahcfnclgdaagreatdoor", sum := "5a02eb63b003eecc8b334754d09e2cdb20514279381748b13f816b2bf9e52a6d", func := "tidegate/tidegatelaw32.PrefixJoins", spec := "prefixJoins", inPlace := ["slices.overlaps[tidegate/api.Pattern]"], unfollowed := true, recurses := true, named := ["tidegate/pattern.shapes"], loops := true, apart := false, laid := [("tidegate/pattern.shapes", laid_tidegate_pattern_shapes)], narrowed := true }
def PrefixJoinsUptoSaid : Prop := prefixJoinsUptoRow.holds Tryz.pinned (OpenSpec.upto prefixJoinsSpec)

/-- 'tidegatelaw32.PrefixRepeats', WHERE WHAT IT READS IS OF BULK AT MOST 1048576: true; the input reads as it did. -/
def prefixRepeatsUptoRow : OpenClaim := { program := "ytpfnahcfnclgdaagreatdoor", sum := "5a02eb63b003eecc8b334754d09e2cdb20514279381748b13f816b2bf9e52a6d", func := "tidegate/tidegatelaw32.PrefixRepeats", spec := "prefixRepeats", inPlace := ["slices.overlaps[tidegate/api.Pattern]"], unfollowed := true, recurses := true, named := ["tidegate/pattern.shapes"], loops := true, apart := false, laid := [("tidegate/pattern.shapes", laid_tidegate_pattern_shapes)], narrowed := true }
def PrefixRepeatsUptoSaid : Prop := prefixRepeatsUptoRow.holds Tryz.pinned (OpenSpec.upto prefixRepeatsSpec)

/-- 'tidegatelaw32.PrefixFollows', WHERE WHAT IT READS IS OF BULK AT MOST 1048576: true; the input reads as it did. -/
def prefixFollowsUptoRow : OpenClaim := { program := "ytpfnahcfnclgdaagreatdoor", sum := "5a02eb63b003eecc8b334754d09e2cdb20514279381748b13f816b2bf9e52a6d", func := "tidegate/tidegatelaw32.PrefixFollows", spec := "prefixFollows", inPlace := ["slices.overlaps[tidegate/api.Pattern]"], unfollowed := true, recurses := true, named := ["tidegate/pattern.shapes"], loops := true, apart := false, laid := [("tidegate/pattern.shapes", laid_tidegate_pattern_shapes)], narrowed := true }
def PrefixFollowsUptoSaid : Prop := prefixFollowsUptoRow.holds Tryz.pinned (OpenSpec.upto prefixFollowsSpec)

/-- 'tidegatelaw32.PrefixLeads', WHERE WHAT IT READS IS OF BULK AT MOST 1048576: true; the input reads as it did. -/
def prefixLeadsUptoRow : OpenClaim := { program := "ytpfnahcfnclgdaagreatdoor", sum := "5a02eb63b003eecc8b334754d09e2cdb20514279381748b13f816b2bf9e52a6d", func := "tidegate/tidegatelaw32.PrefixLeads", spec := "prefixLeads", inPlace := ["slices.overlaps[tidegate/api.Pattern]"], unfollowed := true, recurses := true, named := ["tidegate/pattern.shapes"], loops := true, apart := false, laid := [("tidegate/pattern.shapes", laid_tidegate_pattern_shapes)], narrowed := true }
def PrefixLeadsUptoSaid : Prop := prefixLeadsUptoRow.holds Tryz.pinned (OpenSpec.upto prefixLeadsSpec)

/-- 'tidegatelaw32.PrefixReaches', WHERE WHAT IT READS IS OF BULK AT MOST 1048576: true; the input reads as it did. -/
def prefixReachesUptoRow : OpenClaim := { program := "ytpfnahcfnclgdaagreatdoor", sum := "5a02eb63b003eecc8b334754d09e2cdb20514279381748b13f816b2bf9e52a6d", func := "tidegate/tidegatelaw32.PrefixReaches", spec := "prefixReaches", inPlace := ["slices.overlaps[tidegate/api.Pattern]"], unfollowed := true, recurses := true, named := ["tidegate/pattern.shapes"], loops := true, apart := false, laid := [("tidegate/pattern.shapes", laid_tidegate_pattern_shapes)], narrowed := true }
def PrefixReachesUptoSaid : Prop := prefixReachesUptoRow.holds Tryz.pinned (OpenSpec.upto prefixReachesSpec)

end Rows
end Go.Proofs.YtpfnahcfnclgdaaGreatDoor
