/- Merging two trackers yields that of all of their numbers, in either order, and merging a tracker with itself changes nothing; there are no conditions. -/
import Derived.Test.YtecfkfgaejmdfaaCt5
section
set_option maxRecDepth 100000
namespace Go.Proofs.Ytecfkfgaejmdfaa
open Go.ChangeShapes Go.WideShapes Go.ChangeAt Go.RowKit Go.Am

theorem unites_lifted (os : Os) (started : os.Started) (H : Type) (enc : TypeId × Value → H) :
    ReturnsInHanded {} Try.checked os 6 .any (Rows.sequenceUnitesSpec.pre6 enc Try.prog Try.f6 Rows.sequenceUnitesRow.domain false) (Rows.sequenceUnitesSpec.post enc Try.prog Try.f6 false true false false) := by
  refine returnsInHanded_of_change_sized (C := Try.checked) Go.Am.Try.own started (by kernel_rfl) Try.func6
    (ChangeSpec.witness6 (enc := enc) (C := Try.checked) false ⟨#[], #[.agg #[.slice none 0 0, .slice none 0 0]], []⟩ 8 (by kernel_rfl) (by kernel_rfl) (by kernel_rfl) (by kernel_rfl)) ?_
  intro W base args ds gs before hval0 hW hcnd hwt _
  refine law_post (E := EE) rfl Go.Am.Try.kids Go.Am.Try.full rfl (by rw [Try.params6]; decide) (tb := 4) rfl Try.underlying4 (fun ds hds => ?_) hval0 hW hwt fun xs hx _ => ?_
  · match ds, hds with
    | [_], _ => rfl
  · rw [Try.params6] at hx
    match xs, hx with
    | [x0], ⟨⟨_, q0⟩, _⟩ =>
      obtain ⟨k, l, rfl, gk, gl⟩ := rdTwo q0
      exact P6 k l gk.2 gl.2 gk.1 gl.1

theorem unites_holds : Rows.SequenceUnitesSaid :=
  OpenClaim.holds_of_wide 6 Try.f6 rfl rfl rfl rfl rfl rfl rfl ⟨rfl, rfl, rfl, rfl, rfl⟩ rfl rfl rfl rfl rfl (by kernel_rfl) Try.func6 (by kernel_rfl)
    (of_decide_eq_true (by kernel_rfl)) (by unfold Func.isWrapper; first | (rw [if_pos (by decide +kernel)]; kernel_rfl) | (rw [if_neg (by decide +kernel)]; exact ⟨rfl, rfl⟩))
    (fun os started H enc _ => unites_lifted os started H enc)
#print axioms unites_holds
end Go.Proofs.Ytecfkfgaejmdfaa
end
