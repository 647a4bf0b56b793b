/-
  No cell of these rows narrows 'for every input' (looked for: loops, veiled, ifaces, maps, wideKeys, modest, calm, conditions, laid).
  DERIVED. THE GIVEN ROWS OF THIS SEAT. 7 by the template 'for every input the law returns true; each argument reads behind the call as it read before'; 0 by the template 'total and deterministic' (their statements: YtecfkfgaejmdfaaTotals.lean).
  GIVEN WITH THE SEED: the statements are not yours to turn. If you find one false, say at which input.
  Laid BY PROGRAM, IN A SANDBOX (cutbox-rows.mjs): the forced cells as the released guide's own fill.sh prints them over the translation bc76d0a5da33204a… (all of the seat's roots in one cut). By AI agents, Wed Nov 11 2026. No macro, syntax, notation, axiom, sorry.
-/
import Derived.Test.YtecfkfgaejmdfaaChecked
import GoSem.Claim
import GoSem.ClaimJoined
import GoSem.ClaimMapViews
import Derived.JoinedTies
import Derived.KernelRfl
namespace Go.Proofs.Ytecfkfgaejmdfaa
/- THE CELL 'sum', in the pinned program and in every row, IS THE sha256 OF THE DUMP (.gsa) THAT YtecfkfgaejmdfaaProg.lean LOADS. Nothing in Lean hashes anything: it is a label: what it is worth is what the hold of that sum in a sandbox is worth. -/
noncomputable def Try.pinned : Pinned := { name := "ytecfkfgaejmdfaa", sum := "bc76d0a5da33204a056f9d39cb7c87154a5f950bdd9efc0db9b424c69fd3fb3e", checked := Try.checked }
namespace Rows
def none {H : Type} : Left H := { results := [], args := [] }

/-- 'tidegatelaw34.SequenceReceives': WHATEVER THE INPUT: true; the input reads as it did. -/
def sequenceReceivesSpec : ChangeSpec := { name := "sequenceReceives", fn := fun _ => fun
  | [d1, d2] => { results := [.lit (.bool true)], args := [d1, d2] }
  | _ => none }
def sequenceReceivesRow : OpenClaim := { program := "ytecfkfgaejmdfaa", sum := "bc76d0a5da33204a056f9d39cb7c87154a5f950bdd9efc0db9b424c69fd3fb3e", func := "tidegate/tidegatelaw34.SequenceReceives", spec := "sequenceReceives", inPlace := ["slices.overlaps[int]"], unfollowed := true, recurses := true, apart := false }
def SequenceReceivesSaid : Prop := sequenceReceivesRow.holds Try.pinned (OpenSpec.ofChange sequenceReceivesSpec)

/-- ITS FALSE NEIGHBOUR: 'it returns false'. Refute it at one input. -/
def sequenceReceivesWrong : ChangeSpec := { name := "sequenceReceives", fn := fun _ => fun
  | [d1, d2] => { results := [.lit (.bool false)], args := [d1, d2] }
  | _ => none }
def SequenceReceivesWrongFalsely : Prop := sequenceReceivesRow.holds Try.pinned (OpenSpec.ofChange sequenceReceivesWrong)

/-- 'tidegatelaw34.SequenceGaps': WHATEVER THE INPUT: true; the input reads as it did. -/
def sequenceGapsSpec : ChangeSpec := { name := "sequenceGaps", fn := fun _ => fun
  | [d] => { results := [.lit (.bool true)], args := [d] }
  | _ => none }
def sequenceGapsRow : OpenClaim := { program := "ytecfkfgaejmdfaa", sum := "bc76d0a5da33204a056f9d39cb7c87154a5f950bdd9efc0db9b424c69fd3fb3e", func := "tidegate/tidegatelaw34.SequenceGaps", spec := "sequenceGaps", inPlace := ["slices.overlaps[int]"], unfollowed := true, recurses := true, apart := false }
def SequenceGapsSaid : Prop := sequenceGapsRow.holds Try.pinned (OpenSpec.ofChange sequenceGapsSpec)

/-- ITS FALSE NEIGHBOUR: 'it returns false'. Refute it at one input. -/
def sequenceGapsWrong : ChangeSpec := { name := "sequenceGaps", fn := fun _ => fun
  | [d] => { results := [.lit (.bool false)], args := [d] }
  | _ => none }
def SequenceGapsWrongFalsely : Prop := sequenceGapsRow.holds Try.pinned (OpenSpec.ofChange sequenceGapsWrong)

/-- 'tidegatelaw34.SequenceMerges': WHATEVER THE INPUT: true; the input reads as it did. -/
def sequenceMergesSpec : ChangeSpec := { name := "sequenceMerges", fn := fun _ => fun
  | [d1, d2] => { results := [.lit (.bool true)], args := [d1, d2] }
  | _ => none }
def sequenceMergesRow : OpenClaim := { program := "ytecfkfgaejmdfaa", sum := "bc76d0a5da33204a056f9d39cb7c87154a5f950bdd9efc0db9b424c69fd3fb3e", func := "tidegate/tidegatelaw34.SequenceMerges", spec := "sequenceMerges", inPlace := ["slices.overlaps[int]"], unfollowed := true, recurses := true, apart := false }
def SequenceMergesSaid : Prop := sequenceMergesRow.holds Try.pinned (OpenSpec.ofChange sequenceMergesSpec)

/-- ITS FALSE NEIGHBOUR: 'it returns false'. Refute it at one input. -/
def sequenceMergesWrong : ChangeSpec := { name := "sequenceMerges", fn := fun _ => fun
  | [d1, d2] => { results := [.lit (.bool false)], args := [d1, d2] }
  | _ => none }
def SequenceMergesWrongFalsely : Prop := sequenceMergesRow.holds Try.pinned (OpenSpec.ofChange sequenceMergesWrong)

/-- 'tidegatelaw34.SequenceUnites': WHATEVER THE INPUT: true; the input reads as it did. -/
def sequenceUnitesSpec : ChangeSpec := { name := "sequenceUnites", fn := fun _ => fun
  | [d] => { results := [.lit (.bool true)], args := [d] }
  | _ => none }
def sequenceUnitesRow : OpenClaim := { program := "ytecfkfgaejmdfaa", sum := "bc76d0a5da33204a056f9d39cb7c87154a5f950bdd9efc0db9b424c69fd3fb3e", func := "tidegate/tidegatelaw34.SequenceUnites", spec := "sequenceUnites", inPlace := ["slices.overlaps[int]"], unfollowed := true, recurses := true, apart := false }
def SequenceUnitesSaid : Prop := sequenceUnitesRow.holds Try.pinned (OpenSpec.ofChange sequenceUnitesSpec)

/-- ITS FALSE NEIGHBOUR: 'it returns false'. Refute it at one input. -/
def sequenceUnitesWrong : ChangeSpec := { name := "sequenceUnites", fn := fun _ => fun
  | [d] => { results := [.lit (.bool false)], args := [d] }
  | _ => none }
def SequenceUnitesWrongFalsely : Prop := sequenceUnitesRow.holds Try.pinned (OpenSpec.ofChange sequenceUnitesWrong)

/-- 'tidegatelaw34.SequenceFinds': WHATEVER THE INPUT: true; the input reads as it did. -/
def sequenceFindsSpec : ChangeSpec := { name := "sequenceFinds", fn := fun _ => fun
  | [d1, d2] => { results := [.lit (.bool true)], args := [d1, d2] }
  | _ => none }
def sequenceFindsRow : OpenClaim := { program := "ytecfkfgaejmdfaa", sum := "bc76d0a5da33204a056f9d39cb7c87154a5f950bdd9efc0db9b424c69fd3fb3e", func := "tidegate/tidegatelaw34.SequenceFinds", spec := "sequenceFinds", inPlace := ["slices.overlaps[int]"], unfollowed := true, recurses := true, apart := false }
def SequenceFindsSaid : Prop := sequenceFindsRow.holds Try.pinned (OpenSpec.ofChange sequenceFindsSpec)

/-- ITS FALSE NEIGHBOUR: 'it returns false'. Refute it at one input. -/
def sequenceFindsWrong : ChangeSpec := { name := "sequenceFinds", fn := fun _ => fun
  | [d1, d2] => { results := [.lit (.bool false)], args := [d1, d2] }
  | _ => none }
def SequenceFindsWrongFalsely : Prop := sequenceFindsRow.holds Try.pinned (OpenSpec.ofChange sequenceFindsWrong)

/-- 'tidegatelaw34.SequenceForgets': WHATEVER THE INPUT: true; the input reads as it did. -/
def sequenceForgetsSpec : ChangeSpec := { name := "sequenceForgets", fn := fun _ => fun
  | [d] => { results := [.lit (.bool true)], args := [d] }
  | _ => none }
def sequenceForgetsRow : OpenClaim := { program := "ytecfkfgaejmdfaa", sum := "bc76d0a5da33204a056f9d39cb7c87154a5f950bdd9efc0db9b424c69fd3fb3e", func := "tidegate/tidegatelaw34.SequenceForgets", spec := "sequenceForgets", inPlace := ["slices.overlaps[int]"], unfollowed := true, recurses := true, apart := false }
def SequenceForgetsSaid : Prop := sequenceForgetsRow.holds Try.pinned (OpenSpec.ofChange sequenceForgetsSpec)

/-- ITS FALSE NEIGHBOUR: 'it returns false'. Refute it at one input. -/
def sequenceForgetsWrong : ChangeSpec := { name := "sequenceForgets", fn := fun _ => fun
  | [d] => { results := [.lit (.bool false)], args := [d] }
  | _ => none }
def SequenceForgetsWrongFalsely : Prop := sequenceForgetsRow.holds Try.pinned (OpenSpec.ofChange sequenceForgetsWrong)

/-- 'tidegatelaw34.SequenceCovers': WHATEVER THE INPUT: true; the input reads as it did. -/
def sequenceCoversSpec : ChangeSpec := { name := "sequenceCovers", fn := fun _ => fun
  | [d] => { results := [.lit (.bool true)], args := [d] }
  | _ => none }
def sequenceCoversRow : OpenClaim := { program := "ytecfkfgaejmdfaa", sum := "bc76d0a5da33204a056f9d39cb7c87154a5f950bdd9efc0db9b424c69fd3fb3e", func := "tidegate/tidegatelaw34.SequenceCovers", spec := "sequenceCovers", inPlace := ["slices.overlaps[int]"], unfollowed := true, recurses := true, apart := false }
def SequenceCoversSaid : Prop := sequenceCoversRow.holds Try.pinned (OpenSpec.ofChange sequenceCoversSpec)

/-- ITS FALSE NEIGHBOUR: 'it returns false'. Refute it at one input. -/
def sequenceCoversWrong : ChangeSpec := { name := "sequenceCovers", fn := fun _ => fun
  | [d] => { results := [.lit (.bool false)], args := [d] }
  | _ => none }
def SequenceCoversWrongFalsely : Prop := sequenceCoversRow.holds Try.pinned (OpenSpec.ofChange sequenceCoversWrong)

/- THE SECOND FORM. 'bulk': how many values and letters a reading holds, each counted each time it is reached (what is shared counts as often as it is met; a slice's spare places count too). A statement '..UptoSaid' is the law's where the arguments, and the package variables that the reading takes, are together of bulk at most 1048576: NARROWER than '..Said'. Prove '..Said' where nothing that the law and all that it calls make is longer than what came in: it says more and counts as full. Else prove '..UptoSaid'. A law counts once. -/
mutual
def uptoBulk {H : Type} : DataW H → Nat
  | .lit (.string bytes) => bytes.length + 1
  | .lit _ => 1
  | .nil => 1
  | .ptr d => uptoBulk d + 1
  | .slice elems spare => uptoBulkAll elems + uptoBulkAll spare + 1
  | .agg parts => uptoBulkAll parts + 1
  | .iface _ d => uptoBulk d + 1
  | .map entries => uptoBulkEntries entries + 1
  | .held _ => 1
def uptoBulkAll {H : Type} : List (DataW H) → Nat
  | [] => 0
  | d :: r => uptoBulk d + uptoBulkAll r
def uptoBulkEntries {H : Type} : List (Lit × DataW H) → Nat
  | [] => 0
  | x :: r => uptoBulkEntry x + uptoBulkEntries r
def uptoBulkEntry {H : Type} : Lit × DataW H → Nat
  | (.string bytes, d) => bytes.length + uptoBulk d + 1
  | (_, d) => uptoBulk d + 1
 end
def uptoSmall : (H : Type) → List (DataW H) → Bool := fun _ ds => decide (uptoBulkAll ds ≤ 1048576)
def OpenSpec.upto (s : _root_.Go.ChangeSpec) : _root_.Go.OpenSpec := { _root_.Go.OpenSpec.ofChange s with cond := some uptoSmall }

/-- 'tidegatelaw34.SequenceReceives', WHERE WHAT IT READS IS OF BULK AT MOST 1048576: true; the input reads as it did. -/
def sequenceReceivesUptoRow : OpenClaim := { program := "ytecfkfgaejmdfaa", sum := "bc76d0a5da33204a056f9d39cb7c87154a5f950bdd9efc0db9b424c69fd3fb3e", func := "tidegate/tidegatelaw34.SequenceReceives", spec := "sequenceReceives", inPlace := ["slices.overlaps[int]"], unfollowed := true, recurses := true, apart := false, narrowed := true }
def SequenceReceivesUptoSaid : Prop := sequenceReceivesUptoRow.holds Try.pinned (OpenSpec.upto sequenceReceivesSpec)

/-- 'tidegatelaw34.SequenceGaps', WHERE WHAT IT READS IS OF BULK AT MOST 1048576: true; the input reads as it did. -/
def sequenceGapsUptoRow : OpenClaim := { program := "ytecfkfgaejmdfaa", sum := "bc76d0a5da33204a056f9d39cb7c87154a5f950bdd9efc0db9b424c69fd3fb3e", func := "tidegate/tidegatelaw34.SequenceGaps", spec := "sequenceGaps", inPlace := ["slices.overlaps[int]"], unfollowed := true, recurses := true, apart := false, narrowed := true }
def SequenceGapsUptoSaid : Prop := sequenceGapsUptoRow.holds Try.pinned (OpenSpec.upto sequenceGapsSpec)

/-- 'tidegatelaw34.SequenceMerges', WHERE WHAT IT READS IS OF BULK AT MOST 1048576: true; the input reads as it did. -/
def sequenceMergesUptoRow : OpenClaim := { program := "ytecfkfgaejmdfaa", sum := "bc76d0a5da33204a056f9d39cb7c87154a5f950bdd9efc0db9b424c69fd3fb3e", func := "tidegate/tidegatelaw34.SequenceMerges", spec := "sequenceMerges", inPlace := ["slices.overlaps[int]"], unfollowed := true, recurses := true, apart := false, narrowed := true }
def SequenceMergesUptoSaid : Prop := sequenceMergesUptoRow.holds Try.pinned (OpenSpec.upto sequenceMergesSpec)

/-- 'tidegatelaw34.SequenceUnites', WHERE WHAT IT READS IS OF BULK AT MOST 1048576: true; the input reads as it did. -/
def sequenceUnitesUptoRow : OpenClaim := { program := "ytecfkfgaejmdfaa", sum := "bc76d0a5da33204a056f9d39cb7c87154a5f950bdd9efc0db9b424c69fd3fb3e", func := "tidegate/tidegatelaw34.SequenceUnites", spec := "sequenceUnites", inPlace := ["slices.overlaps[int]"], unfollowed := true, recurses := true, apart := false, narrowed := true }
def SequenceUnitesUptoSaid : Prop := sequenceUnitesUptoRow.holds Try.pinned (OpenSpec.upto sequenceUnitesSpec)

/-- 'tidegatelaw34.SequenceFinds', WHERE WHAT IT READS IS OF BULK AT MOST 1048576: true; the input reads as it did. -/
def sequenceFindsUptoRow : OpenClaim := { program := "ytecfkfgaejmdfaa", sum := "bc76d0a5da33204a056f9d39cb7c87154a5f950bdd9efc0db9b424c69fd3fb3e", func := "tidegate/tidegatelaw34.SequenceFinds", spec := "sequenceFinds", inPlace := ["slices.overlaps[int]"], unfollowed := true, recurses := true, apart := false, narrowed := true }
def SequenceFindsUptoSaid : Prop := sequenceFindsUptoRow.holds Try.pinned (OpenSpec.upto sequenceFindsSpec)

/-- 'tidegatelaw34.SequenceForgets', WHERE WHAT IT READS IS OF BULK AT MOST 1048576: true; the input reads as it did. -/
def sequenceForgetsUptoRow : OpenClaim := { program := "ytecfkfgaejmdfaa", sum := "bc76d0a5da33204a056f9d39cb7c87154a5f950bdd9efc0db9b424c69fd3fb3e", func := "tidegate/tidegatelaw34.SequenceForgets", spec := "sequenceForgets", inPlace := ["slices.overlaps[int]"], unfollowed := true, recurses := true, apart := false, narrowed := true }
def SequenceForgetsUptoSaid : Prop := sequenceForgetsUptoRow.holds Try.pinned (OpenSpec.upto sequenceForgetsSpec)

/-- 'tidegatelaw34.SequenceCovers', WHERE WHAT IT READS IS OF BULK AT MOST 1048576: true; the input reads as it did. -/
def sequenceCoversUptoRow : OpenClaim := { program := "ytecfkfgaejmdfaa", sum := "bc76d0a5da33204a056f9d39cb7c87154a5f950bdd9efc0db9b424c69fd3fb3e", func := "tidegate/tidegatelaw34.SequenceCovers", spec := "sequenceCovers", inPlace := ["slices.overlaps[int]"], unfollowed := true, recurses := true, apart := false, narrowed := true }
def SequenceCoversUptoSaid : Prop := sequenceCoversUptoRow.holds Try.pinned (OpenSpec.upto sequenceCoversSpec)

end Rows
end Go.Proofs.Ytecfkfgaejmdfaa
