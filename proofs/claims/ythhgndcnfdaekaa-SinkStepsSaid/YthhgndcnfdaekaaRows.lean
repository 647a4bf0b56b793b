/-
  No cell of these rows narrows 'for every input' (looked for: loops, veiled, ifaces, maps, wideKeys, modest, calm, conditions, laid).
  DERIVED. THE GIVEN ROWS OF THIS SEAT. 7 by the template 'for every input the law returns true; each argument reads behind the call as it read before'; 0 by the template 'total and deterministic' (their statements: YthhgndcnfdaekaaTotals.lean).
  GIVEN WITH THE SEED: the statements are not yours to turn. If you find one false, say at which input.
  Laid BY PROGRAM, IN A SANDBOX (cutbox-rows.mjs): the forced cells as the released guide's own fill.sh prints them over the translation b79a4c9bc8dad56f… (all of the seat's roots in one cut). By AI agents, Wed Nov 11 2026. No macro, syntax, notation, axiom, sorry.
-/
import Derived.Test.YthhgndcnfdaekaaChecked
import GoSem.Claim
import GoSem.ClaimJoined
import GoSem.ClaimMapViews
import Derived.JoinedTies
import Derived.KernelRfl
namespace Go.Proofs.Ythhgndcnfdaekaa
/- THE CELL 'sum', in the pinned program and in every row, IS THE sha256 OF THE DUMP (.gsa) THAT YthhgndcnfdaekaaProg.lean LOADS. Nothing in Lean hashes anything: it is a label: what it is worth is what the hold of that sum in a sandbox is worth. -/
noncomputable def Try.pinned : Pinned := { name := "ythhgndcnfdaekaa", sum := "b79a4c9bc8dad56fb94cd6c81bdfc8e795e5b0ea6da23a1e300c3d75c4ac6676", checked := Try.checked }
namespace Rows
def none {H : Type} : Left H := { results := [], args := [] }

/-- 'tidegatelaw51.SinkChecks': WHATEVER THE INPUT: true; the input reads as it did. -/
def sinkChecksSpec : ChangeSpec := { name := "sinkChecks", fn := fun _ => fun
  | [d] => { results := [.lit (.bool true)], args := [d] }
  | _ => none }
def sinkChecksRow : OpenClaim := { program := "ythhgndcnfdaekaa", sum := "b79a4c9bc8dad56fb94cd6c81bdfc8e795e5b0ea6da23a1e300c3d75c4ac6676", func := "tidegate/tidegatelaw51.SinkChecks", spec := "sinkChecks", inPlace := ["slices.overlaps[tidegate/api.Batch]"], unfollowed := true, recurses := true, apart := false }
def SinkChecksSaid : Prop := sinkChecksRow.holds Try.pinned (OpenSpec.ofChange sinkChecksSpec)

/-- ITS FALSE NEIGHBOUR: 'it returns false'. Refute it at one input. -/
def sinkChecksWrong : ChangeSpec := { name := "sinkChecks", fn := fun _ => fun
  | [d] => { results := [.lit (.bool false)], args := [d] }
  | _ => none }
def SinkChecksWrongFalsely : Prop := sinkChecksRow.holds Try.pinned (OpenSpec.ofChange sinkChecksWrong)

/-- 'tidegatelaw51.SinkAdds': WHATEVER THE INPUT: true; the input reads as it did. -/
def sinkAddsSpec : ChangeSpec := { name := "sinkAdds", fn := fun _ => fun
  | [d1, d2, d3] => { results := [.lit (.bool true)], args := [d1, d2, d3] }
  | _ => none }
def sinkAddsRow : OpenClaim := { program := "ythhgndcnfdaekaa", sum := "b79a4c9bc8dad56fb94cd6c81bdfc8e795e5b0ea6da23a1e300c3d75c4ac6676", func := "tidegate/tidegatelaw51.SinkAdds", spec := "sinkAdds", inPlace := ["slices.overlaps[tidegate/api.Batch]"], unfollowed := true, recurses := true, apart := false }
def SinkAddsSaid : Prop := sinkAddsRow.holds Try.pinned (OpenSpec.ofChange sinkAddsSpec)

/-- ITS FALSE NEIGHBOUR: 'it returns false'. Refute it at one input. -/
def sinkAddsWrong : ChangeSpec := { name := "sinkAdds", fn := fun _ => fun
  | [d1, d2, d3] => { results := [.lit (.bool false)], args := [d1, d2, d3] }
  | _ => none }
def SinkAddsWrongFalsely : Prop := sinkAddsRow.holds Try.pinned (OpenSpec.ofChange sinkAddsWrong)

/-- 'tidegatelaw51.SinkCommits': WHATEVER THE INPUT: true; the input reads as it did. -/
def sinkCommitsSpec : ChangeSpec := { name := "sinkCommits", fn := fun _ => fun
  | [d1, d2] => { results := [.lit (.bool true)], args := [d1, d2] }
  | _ => none }
def sinkCommitsRow : OpenClaim := { program := "ythhgndcnfdaekaa", sum := "b79a4c9bc8dad56fb94cd6c81bdfc8e795e5b0ea6da23a1e300c3d75c4ac6676", func := "tidegate/tidegatelaw51.SinkCommits", spec := "sinkCommits", inPlace := ["slices.overlaps[tidegate/api.Batch]"], unfollowed := true, recurses := true, apart := false }
def SinkCommitsSaid : Prop := sinkCommitsRow.holds Try.pinned (OpenSpec.ofChange sinkCommitsSpec)

/-- ITS FALSE NEIGHBOUR: 'it returns false'. Refute it at one input. -/
def sinkCommitsWrong : ChangeSpec := { name := "sinkCommits", fn := fun _ => fun
  | [d1, d2] => { results := [.lit (.bool false)], args := [d1, d2] }
  | _ => none }
def SinkCommitsWrongFalsely : Prop := sinkCommitsRow.holds Try.pinned (OpenSpec.ofChange sinkCommitsWrong)

/-- 'tidegatelaw51.SinkGrows': WHATEVER THE INPUT: true; the input reads as it did. -/
def sinkGrowsSpec : ChangeSpec := { name := "sinkGrows", fn := fun _ => fun
  | [d1, d2, d3] => { results := [.lit (.bool true)], args := [d1, d2, d3] }
  | _ => none }
def sinkGrowsRow : OpenClaim := { program := "ythhgndcnfdaekaa", sum := "b79a4c9bc8dad56fb94cd6c81bdfc8e795e5b0ea6da23a1e300c3d75c4ac6676", func := "tidegate/tidegatelaw51.SinkGrows", spec := "sinkGrows", inPlace := ["slices.overlaps[tidegate/api.Batch]"], unfollowed := true, recurses := true, apart := false }
def SinkGrowsSaid : Prop := sinkGrowsRow.holds Try.pinned (OpenSpec.ofChange sinkGrowsSpec)

/-- ITS FALSE NEIGHBOUR: 'it returns false'. Refute it at one input. -/
def sinkGrowsWrong : ChangeSpec := { name := "sinkGrows", fn := fun _ => fun
  | [d1, d2, d3] => { results := [.lit (.bool false)], args := [d1, d2, d3] }
  | _ => none }
def SinkGrowsWrongFalsely : Prop := sinkGrowsRow.holds Try.pinned (OpenSpec.ofChange sinkGrowsWrong)

/-- 'tidegatelaw51.SinkAborts': WHATEVER THE INPUT: true; the input reads as it did. -/
def sinkAbortsSpec : ChangeSpec := { name := "sinkAborts", fn := fun _ => fun
  | [d1, d2] => { results := [.lit (.bool true)], args := [d1, d2] }
  | _ => none }
def sinkAbortsRow : OpenClaim := { program := "ythhgndcnfdaekaa", sum := "b79a4c9bc8dad56fb94cd6c81bdfc8e795e5b0ea6da23a1e300c3d75c4ac6676", func := "tidegate/tidegatelaw51.SinkAborts", spec := "sinkAborts", inPlace := ["slices.overlaps[tidegate/api.Batch]"], unfollowed := true, recurses := true, apart := false }
def SinkAbortsSaid : Prop := sinkAbortsRow.holds Try.pinned (OpenSpec.ofChange sinkAbortsSpec)

/-- ITS FALSE NEIGHBOUR: 'it returns false'. Refute it at one input. -/
def sinkAbortsWrong : ChangeSpec := { name := "sinkAborts", fn := fun _ => fun
  | [d1, d2] => { results := [.lit (.bool false)], args := [d1, d2] }
  | _ => none }
def SinkAbortsWrongFalsely : Prop := sinkAbortsRow.holds Try.pinned (OpenSpec.ofChange sinkAbortsWrong)

/-- 'tidegatelaw51.SinkCollects': WHATEVER THE INPUT: true; the input reads as it did. -/
def sinkCollectsSpec : ChangeSpec := { name := "sinkCollects", fn := fun _ => fun
  | [d1, d2] => { results := [.lit (.bool true)], args := [d1, d2] }
  | _ => none }
def sinkCollectsRow : OpenClaim := { program := "ythhgndcnfdaekaa", sum := "b79a4c9bc8dad56fb94cd6c81bdfc8e795e5b0ea6da23a1e300c3d75c4ac6676", func := "tidegate/tidegatelaw51.SinkCollects", spec := "sinkCollects", inPlace := ["slices.overlaps[tidegate/api.Batch]"], unfollowed := true, recurses := true, apart := false }
def SinkCollectsSaid : Prop := sinkCollectsRow.holds Try.pinned (OpenSpec.ofChange sinkCollectsSpec)

/-- ITS FALSE NEIGHBOUR: 'it returns false'. Refute it at one input. -/
def sinkCollectsWrong : ChangeSpec := { name := "sinkCollects", fn := fun _ => fun
  | [d1, d2] => { results := [.lit (.bool false)], args := [d1, d2] }
  | _ => none }
def SinkCollectsWrongFalsely : Prop := sinkCollectsRow.holds Try.pinned (OpenSpec.ofChange sinkCollectsWrong)

/-- 'tidegatelaw51.SinkSteps': WHATEVER THE INPUT: true; the input reads as it did. -/
def sinkStepsSpec : ChangeSpec := { name := "sinkSteps", fn := fun _ => fun
  | [d1, d2] => { results := [.lit (.bool true)], args := [d1, d2] }
  | _ => none }
def sinkStepsRow : OpenClaim := { program := "ythhgndcnfdaekaa", sum := "b79a4c9bc8dad56fb94cd6c81bdfc8e795e5b0ea6da23a1e300c3d75c4ac6676", func := "tidegate/tidegatelaw51.SinkSteps", spec := "sinkSteps", inPlace := ["slices.overlaps[tidegate/api.Batch]"], unfollowed := true, recurses := true, apart := false }
def SinkStepsSaid : Prop := sinkStepsRow.holds Try.pinned (OpenSpec.ofChange sinkStepsSpec)

/-- ITS FALSE NEIGHBOUR: 'it returns false'. Refute it at one input. -/
def sinkStepsWrong : ChangeSpec := { name := "sinkSteps", fn := fun _ => fun
  | [d1, d2] => { results := [.lit (.bool false)], args := [d1, d2] }
  | _ => none }
def SinkStepsWrongFalsely : Prop := sinkStepsRow.holds Try.pinned (OpenSpec.ofChange sinkStepsWrong)

/- THE SECOND FORM. 'bulk': how many values and letters a reading holds, each counted each time it is reached (what is shared counts as often as it is met; a slice's spare places count too). A statement '..UptoSaid' is the law's where the arguments, and the package variables that the reading takes, are together of bulk at most 1048576: NARROWER than '..Said'. Prove '..Said' where nothing that the law and all that it calls make is longer than what came in: it says more and counts as full. Else prove '..UptoSaid'. A law counts once. -/
mutual
def uptoBulk {H : Type} : DataW H → Nat
  | .lit (.string bytes) => bytes.length + 1
  | .lit _ => 1
  | .nil => 1
  | .ptr d => uptoBulk d + 1
  | .slice elems spare => uptoBulkAll elems + uptoBulkAll spare + 1
  | .agg parts => uptoBulkAll parts + 1
  | .iface _ d => uptoBulk d + 1
  | .map entries => uptoBulkEntries entries + 1
  | .held _ => 1
def uptoBulkAll {H : Type} : List (DataW H) → Nat
  | [] => 0
  | d :: r => uptoBulk d + uptoBulkAll r
def uptoBulkEntries {H : Type} : List (Lit × DataW H) → Nat
  | [] => 0
  | x :: r => uptoBulkEntry x + uptoBulkEntries r
def uptoBulkEntry {H : Type} : Lit × DataW H → Nat
  | (.string bytes, d) => bytes.length + uptoBulk d + 1
  | (_, d) => uptoBulk d + 1
 end
def uptoSmall : (H : Type) → List (DataW H) → Bool := fun _ ds => decide (uptoBulkAll ds ≤ 1048576)
def OpenSpec.upto (s : _root_.Go.ChangeSpec) : _root_.Go.OpenSpec := { _root_.Go.OpenSpec.ofChange s with cond := some uptoSmall }

/-- 'tidegatelaw51.SinkChecks', WHERE WHAT IT READS IS OF BULK AT MOST 1048576: true; the input reads as it did. -/
def sinkChecksUptoRow : OpenClaim := { program := "ythhgndcnfdaekaa", sum := "b79a4c9bc8dad56fb94cd6c81bdfc8e795e5b0ea6da23a1e300c3d75c4ac6676", func := "tidegate/tidegatelaw51.SinkChecks", spec := "sinkChecks", inPlace := ["slices.overlaps[tidegate/api.Batch]"], unfollowed := true, recurses := true, apart := false, narrowed := true }
def SinkChecksUptoSaid : Prop := sinkChecksUptoRow.holds Try.pinned (OpenSpec.upto sinkChecksSpec)

/-- 'tidegatelaw51.SinkAdds', WHERE WHAT IT READS IS OF BULK AT MOST 1048576: true; the input reads as it did. -/
def sinkAddsUptoRow : OpenClaim := { program := "ythhgndcnfdaekaa", sum := "b79a4c9bc8dad56fb94cd6c81bdfc8e795e5b0ea6da23a1e300c3d75c4ac6676", func := "tidegate/tidegatelaw51.SinkAdds", spec := "sinkAdds", inPlace := ["slices.overlaps[tidegate/api.Batch]"], unfollowed := true, recurses := true, apart := false, narrowed := true }
def SinkAddsUptoSaid : Prop := sinkAddsUptoRow.holds Try.pinned (OpenSpec.upto sinkAddsSpec)

/-- 'tidegatelaw51.SinkCommits', WHERE WHAT IT READS IS OF BULK AT MOST 1048576: true; the input reads as it did. -/
def sinkCommitsUptoRow : OpenClaim := { program := "ythhgndcnfdaekaa", sum := "b79a4c9bc8dad56fb94cd6c81bdfc8e795e5b0ea6da23a1e300c3d75c4ac6676", func := "tidegate/tidegatelaw51.SinkCommits", spec := "sinkCommits", inPlace := ["slices.overlaps[tidegate/api.Batch]"], unfollowed := true, recurses := true, apart := false, narrowed := true }
def SinkCommitsUptoSaid : Prop := sinkCommitsUptoRow.holds Try.pinned (OpenSpec.upto sinkCommitsSpec)

/-- 'tidegatelaw51.SinkGrows', WHERE WHAT IT READS IS OF BULK AT MOST 1048576: true; the input reads as it did. -/
def sinkGrowsUptoRow : OpenClaim := { program := "ythhgndcnfdaekaa", sum := "b79a4c9bc8dad56fb94cd6c81bdfc8e795e5b0ea6da23a1e300c3d75c4ac6676", func := "tidegate/tidegatelaw51.SinkGrows", spec := "sinkGrows", inPlace := ["slices.overlaps[tidegate/api.Batch]"], unfollowed := true, recurses := true, apart := false, narrowed := true }
def SinkGrowsUptoSaid : Prop := sinkGrowsUptoRow.holds Try.pinned (OpenSpec.upto sinkGrowsSpec)

/-- 'tidegatelaw51.SinkAborts', WHERE WHAT IT READS IS OF BULK AT MOST 1048576: true; the input reads as it did. -/
def sinkAbortsUptoRow : OpenClaim := { program := "ythhgndcnfdaekaa", sum := "b79a4c9bc8dad56fb94cd6c81bdfc8e795e5b0ea6da23a1e300c3d75c4ac6676", func := "tidegate/tidegatelaw51.SinkAborts", spec := "sinkAborts", inPlace := ["slices.overlaps[tidegate/api.Batch]"], unfollowed := true, recurses := true, apart := false, narrowed := true }
def SinkAbortsUptoSaid : Prop := sinkAbortsUptoRow.holds Try.pinned (OpenSpec.upto sinkAbortsSpec)

/-- 'tidegatelaw51.SinkCollects', WHERE WHAT IT READS IS OF BULK AT MOST 1048576: true; the input reads as it did. -/
def sinkCollectsUptoRow : OpenClaim := { program := "ythhgndcnfdaekaa", sum := "b79a4c9bc8dad56fb94cd6c81bdfc8e795e5b0ea6da23a1e300c3d75c4ac6676", func := "tidegate/tidegatelaw51.SinkCollects", spec := "sinkCollects", inPlace := ["slices.overlaps[tidegate/api.Batch]"], unfollowed := true, recurses := true, apart := false, narrowed := true }
def SinkCollectsUptoSaid : Prop := sinkCollectsUptoRow.holds Try.pinned (OpenSpec.upto sinkCollectsSpec)

/-- 'tidegatelaw51.SinkSteps', WHERE WHAT IT READS IS OF BULK AT MOST 1048576: true; the input reads as it did. -/
def sinkStepsUptoRow : OpenClaim := { program := "ythhgndcnfdaekaa", sum := "b79a4c9bc8dad56fb94cd6c81bdfc8e795e5b0ea6da23a1e300c3d75c4ac6676", func := "tidegate/tidegatelaw51.SinkSteps", spec := "sinkSteps", inPlace := ["slices.overlaps[tidegate/api.Batch]"], unfollowed := true, recurses := true, apart := false, narrowed := true }
def SinkStepsUptoSaid : Prop := sinkStepsUptoRow.holds Try.pinned (OpenSpec.upto sinkStepsSpec)

end Rows
end Go.Proofs.Ythhgndcnfdaekaa
