/- Has and Missing return the results of the reference for all trackers and numbers; there are no conditions. -/
import Derived.Test.YtecfkfgaejmdfaaCt4
section
set_option maxRecDepth 100000
namespace Go.Proofs.Ytecfkfgaejmdfaa
open Go.ChangeShapes Go.WideShapes Go.ChangeAt Go.RowKit Go.Am

theorem finds_lifted (os : Os) (started : os.Started) (H : Type) (enc : TypeId × Value → H) :
    ReturnsInHanded {} Try.checked os 7 .any (Rows.sequenceFindsSpec.pre6 enc Try.prog Try.f7 Rows.sequenceFindsRow.domain false) (Rows.sequenceFindsSpec.post enc Try.prog Try.f7 false true false false) := by
  refine returnsInHanded_of_change_sized (C := Try.checked) Go.Am.Try.own started (by kernel_rfl) Try.func7
    (ChangeSpec.witness6 (enc := enc) (C := Try.checked) false ⟨#[], #[.agg #[.int .i64 0, .slice none 0 0, .slice none 0 0, .int .i64 0], .int .i64 0], []⟩ 8 (by kernel_rfl) (by kernel_rfl) (by kernel_rfl) (by kernel_rfl)) ?_
  intro W base args ds gs before hval0 hW hcnd hwt _
  refine law_post (E := EE) rfl Go.Am.Try.kids Go.Am.Try.full rfl (by rw [Try.params7]; decide) (tb := 4) rfl Try.underlying4 (fun ds hds => ?_) hval0 hW hwt fun xs hx _ => ?_
  · match ds, hds with
    | [_, _], _ => rfl
  · rw [Try.params7] at hx
    match xs, hx with
    | [x0, x1], ⟨⟨_, q0⟩, ⟨_, q1⟩, _⟩ =>
      obtain ⟨v0, rfl, g0⟩ := rdTrk q0
      obtain ⟨v1, rfl⟩ := rdIntA q1
      exact P7 v0 v1 g0

theorem finds_holds : Rows.SequenceFindsSaid :=
  OpenClaim.holds_of_wide 7 Try.f7 rfl rfl rfl rfl rfl rfl rfl ⟨rfl, rfl, rfl, rfl, rfl⟩ rfl rfl rfl rfl rfl (by kernel_rfl) Try.func7 (by kernel_rfl)
    (of_decide_eq_true (by kernel_rfl)) (by unfold Func.isWrapper; first | (rw [if_pos (by decide +kernel)]; kernel_rfl) | (rw [if_neg (by decide +kernel)]; exact ⟨rfl, rfl⟩))
    (fun os started H enc _ => finds_lifted os started H enc)
#print axioms finds_holds
end Go.Proofs.Ytecfkfgaejmdfaa
end
