/- The gaps contain exactly the numbers below the greatest one that were not received, and Missing counts them; there are no conditions. -/
import Derived.Test.YtecfkfgaejmdfaaCt5
import Derived.Test.YtecfkfgaejmdfaaCt6
section
set_option maxRecDepth 100000
namespace Go.Proofs.Ytecfkfgaejmdfaa
open Go.ChangeShapes Go.WideShapes Go.ChangeAt Go.RowKit Go.Am

theorem covers_lifted (os : Os) (started : os.Started) (H : Type) (enc : TypeId × Value → H) :
    ReturnsInHanded {} Try.checked os 9 .any (Rows.sequenceCoversSpec.pre6 enc Try.prog Try.f9 Rows.sequenceCoversRow.domain false) (Rows.sequenceCoversSpec.post enc Try.prog Try.f9 false true false false) := by
  refine returnsInHanded_of_change_sized (C := Try.checked) Go.Am.Try.own started (by kernel_rfl) Try.func9
    (ChangeSpec.witness6 (enc := enc) (C := Try.checked) false ⟨#[], #[.slice none 0 0], []⟩ 8 (by kernel_rfl) (by kernel_rfl) (by kernel_rfl) (by kernel_rfl)) ?_
  intro W base args ds gs before hval0 hW hcnd hwt _
  refine law_post (E := EE) rfl Go.Am.Try.kids Go.Am.Try.full rfl (by rw [Try.params9]; decide) (tb := 4) rfl Try.underlying4 (fun ds hds => ?_) hval0 hW hwt fun xs hx _ => ?_
  · match ds, hds with
    | [_], _ => rfl
  · rw [Try.params9] at hx
    match xs, hx with
    | [x0], ⟨⟨_, q0⟩, _⟩ =>
      obtain ⟨l, rfl, gs, gl⟩ := rdU8sA q0
      exact P9 l gl gs

theorem covers_holds : Rows.SequenceCoversSaid :=
  OpenClaim.holds_of_wide 9 Try.f9 rfl rfl rfl rfl rfl rfl rfl ⟨rfl, rfl, rfl, rfl, rfl⟩ rfl rfl rfl rfl rfl (by kernel_rfl) Try.func9 (by kernel_rfl)
    (of_decide_eq_true (by kernel_rfl)) (by unfold Func.isWrapper; first | (rw [if_pos (by decide +kernel)]; kernel_rfl) | (rw [if_neg (by decide +kernel)]; exact ⟨rfl, rfl⟩))
    (fun os started H enc _ => covers_lifted os started H enc)
#print axioms covers_holds
end Go.Proofs.Ytecfkfgaejmdfaa
end
