/- The law SinkGrows returns true for every input that the statement takes, without a condition. -/
import Derived.Test.YthhgndcnfdaekaaCt5
section
set_option maxRecDepth 100000
namespace Go.Proofs.Ythhgndcnfdaekaa
open Go.ChangeShapes Go.WideShapes Go.ChangeAt Go.RowKit Go.Am

theorem rdInt2 {n : Nat} {x : AV} (h : El EE.P (Cl EE.P n) 44 x) : ∃ i j, x = .agg [int i, int j] := by
  obtain ⟨cs, rfl, g⟩ := h.agg (by kernel_rfl)
  obtain ⟨m, a, r, rfl, ha, b, r, rfl, hb, rfl⟩ := g.array Try.underlying44
  obtain ⟨i, rfl, _⟩ := ha.int Try.underlying3
  obtain ⟨j, rfl, _⟩ := hb.int Try.underlying3
  exact ⟨i, j, rfl⟩

theorem grows_lifted (os : Os) (started : os.Started) (H : Type) (enc : TypeId × Value → H) :
    ReturnsInHanded {} Try.checked os 6 .any (Rows.sinkGrowsSpec.pre6 enc Try.prog Try.f6 Rows.sinkGrowsRow.domain false) (Rows.sinkGrowsSpec.post enc Try.prog Try.f6 false true false false) := by
  refine returnsInHanded_of_change_sized (C := Try.checked) Go.Am.Try.own started (by kernel_rfl) Try.func6
    (ChangeSpec.witness6 (enc := enc) (C := Try.checked) false ⟨#[], #[.agg #[.int .i64 0, .slice none 0 0, .slice none 0 0], .agg #[.int .i64 0, .int .i64 0], .slice none 0 0], []⟩ 8 (by kernel_rfl) (by kernel_rfl) (by kernel_rfl) (by kernel_rfl)) ?_
  intro W base args ds gs before hval0 hW hcnd hwt _
  refine law_post (E := EE) rfl Go.Am.Try.kids Go.Am.Try.full rfl (by rw [Try.params6]; decide) (tb := 4) rfl Try.underlying4 (fun ds hds => ?_) hval0 hW hwt fun xs hx _ => ?_
  · match ds, hds with
    | [_, _, _], _ => rfl
  · rw [Try.params6] at hx
    match xs, hx with
    | [x, y, z], ⟨⟨_, h1⟩, ⟨_, h2⟩, ⟨_, h3⟩, _⟩ =>
      obtain ⟨s, rfl, hs⟩ := rdSnk h1
      obtain ⟨i, j, rfl⟩ := rdInt2 h2
      obtain ⟨l, rfl, hl⟩ := rdChgsA h3
      exact P6 s i j l hs hl

theorem grows_holds : Rows.SinkGrowsSaid :=
  OpenClaim.holds_of_wide 6 Try.f6 rfl rfl rfl rfl rfl rfl rfl ⟨rfl, rfl, rfl, rfl, rfl⟩ rfl rfl rfl rfl rfl (by kernel_rfl) Try.func6 (by kernel_rfl)
    (of_decide_eq_true (by kernel_rfl)) (by unfold Func.isWrapper; first | (rw [if_pos (by decide +kernel)]; kernel_rfl) | (rw [if_neg (by decide +kernel)]; exact ⟨rfl, rfl⟩))
    (fun os started H enc _ => grows_lifted os started H enc)
#print axioms grows_holds
end Go.Proofs.Ythhgndcnfdaekaa
end
