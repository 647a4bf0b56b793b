/- Merge returns the tracker, or the error, of the reference for all trackers; there are no conditions. -/
import Derived.Test.YtecfkfgaejmdfaaCt4
section
set_option maxRecDepth 100000
namespace Go.Proofs.Ytecfkfgaejmdfaa
open Go.ChangeShapes Go.WideShapes Go.ChangeAt Go.RowKit Go.Am

theorem merges_lifted (os : Os) (started : os.Started) (H : Type) (enc : TypeId × Value → H) :
    ReturnsInHanded {} Try.checked os 5 .any (Rows.sequenceMergesSpec.pre6 enc Try.prog Try.f5 Rows.sequenceMergesRow.domain false) (Rows.sequenceMergesSpec.post enc Try.prog Try.f5 false true false false) := by
  refine returnsInHanded_of_change_sized (C := Try.checked) Go.Am.Try.own started (by kernel_rfl) Try.func5
    (ChangeSpec.witness6 (enc := enc) (C := Try.checked) false ⟨#[], #[.agg #[.int .i64 0, .slice none 0 0, .slice none 0 0, .int .i64 0], .agg #[.int .i64 0, .slice none 0 0, .slice none 0 0, .int .i64 0]], []⟩ 8 (by kernel_rfl) (by kernel_rfl) (by kernel_rfl) (by kernel_rfl)) ?_
  intro W base args ds gs before hval0 hW hcnd hwt _
  refine law_post (E := EE) rfl Go.Am.Try.kids Go.Am.Try.full rfl (by rw [Try.params5]; decide) (tb := 4) rfl Try.underlying4 (fun ds hds => ?_) hval0 hW hwt fun xs hx _ => ?_
  · match ds, hds with
    | [_, _], _ => rfl
  · rw [Try.params5] at hx
    match xs, hx with
    | [x0, x1], ⟨⟨_, q0⟩, ⟨_, q1⟩, _⟩ =>
      obtain ⟨v0, rfl, g0⟩ := rdTrk q0
      obtain ⟨v1, rfl, g1⟩ := rdTrk q1
      exact P5 v0 v1 g0 g1

theorem merges_holds : Rows.SequenceMergesSaid :=
  OpenClaim.holds_of_wide 5 Try.f5 rfl rfl rfl rfl rfl rfl rfl ⟨rfl, rfl, rfl, rfl, rfl⟩ rfl rfl rfl rfl rfl (by kernel_rfl) Try.func5 (by kernel_rfl)
    (of_decide_eq_true (by kernel_rfl)) (by unfold Func.isWrapper; first | (rw [if_pos (by decide +kernel)]; kernel_rfl) | (rw [if_neg (by decide +kernel)]; exact ⟨rfl, rfl⟩))
    (fun os started H enc _ => merges_lifted os started H enc)
#print axioms merges_holds
end Go.Proofs.Ytecfkfgaejmdfaa
end
