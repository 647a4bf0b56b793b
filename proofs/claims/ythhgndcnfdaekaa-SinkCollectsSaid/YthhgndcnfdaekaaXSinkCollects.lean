/- The law SinkCollects returns true for every input that the statement takes, without a condition. -/
import Derived.Test.YthhgndcnfdaekaaCt5
section
set_option maxRecDepth 100000
namespace Go.Proofs.Ythhgndcnfdaekaa
open Go.ChangeShapes Go.WideShapes Go.ChangeAt Go.RowKit Go.Am

theorem cells5 : Try.prog.cellsOf 5 = 1 := by kernel_rfl
theorem bytes5 : Try.prog.bytesOf 5 = 1 := by kernel_rfl
theorem rdU8s {n : Nat} {x : AV} (h : El EE.P (Cl EE.P n) 48 x) : ∃ l : List Int, x = .isl 1 (mapE u8 l) ∧ (∀ n ∈ l, 0 ≤ n ∧ n ≤ 255) ∧ Short l := by
  obtain ⟨m, es, h1, hl, he⟩ := (h.one (by kernel_rfl)).slice Try.underlying48
  obtain ⟨l, rfl, h2⟩ := list_enc (enc := u8) (ok := fun n => 0 ≤ n ∧ n ≤ 255) fun x hx => by
    obtain ⟨i, h3, hw⟩ := ((he x hx).one (by kernel_rfl)).int Try.underlying5
    exact ⟨i, by simpa [u8] using h3, by simpa [Lit.wf, IntKind.min, IntKind.max, IntKind.signed, IntKind.bits] using hw⟩
  rw [cells5] at h1
  exact ⟨l, by simpa using h1, h2, short_of (k := 0) (bytes5 ▸ hl)⟩

theorem collects_lifted (os : Os) (started : os.Started) (H : Type) (enc : TypeId × Value → H) :
    ReturnsInHanded {} Try.checked os 8 .any (Rows.sinkCollectsSpec.pre6 enc Try.prog Try.f8 Rows.sinkCollectsRow.domain false) (Rows.sinkCollectsSpec.post enc Try.prog Try.f8 false true false false) := by
  refine returnsInHanded_of_change_sized (C := Try.checked) Go.Am.Try.own started (by kernel_rfl) Try.func8
    (ChangeSpec.witness6 (enc := enc) (C := Try.checked) false ⟨#[], #[.slice none 0 0, .slice none 0 0], []⟩ 8 (by kernel_rfl) (by kernel_rfl) (by kernel_rfl) (by kernel_rfl)) ?_
  intro W base args ds gs before hval0 hW hcnd hwt _
  refine law_post (E := EE) rfl Go.Am.Try.kids Go.Am.Try.full rfl (by rw [Try.params8]; decide) (tb := 4) rfl Try.underlying4 (fun ds hds => ?_) hval0 hW hwt fun xs hx _ => ?_
  · match ds, hds with
    | [_, _], _ => rfl
  · rw [Try.params8] at hx
    match xs, hx with
    | [x, y], ⟨⟨_, h1⟩, ⟨_, h2⟩, _⟩ =>
      obtain ⟨es, rfl, h8, hs⟩ := rdU8s h1
      obtain ⟨l, rfl, hl⟩ := rdChgsA h2
      exact P8 es l h8 hs hl

theorem collects_holds : Rows.SinkCollectsSaid :=
  OpenClaim.holds_of_wide 8 Try.f8 rfl rfl rfl rfl rfl rfl rfl ⟨rfl, rfl, rfl, rfl, rfl⟩ rfl rfl rfl rfl rfl (by kernel_rfl) Try.func8 (by kernel_rfl)
    (of_decide_eq_true (by kernel_rfl)) (by unfold Func.isWrapper; first | (rw [if_pos (by decide +kernel)]; kernel_rfl) | (rw [if_neg (by decide +kernel)]; exact ⟨rfl, rfl⟩))
    (fun os started H enc _ => collects_lifted os started H enc)
#print axioms collects_holds
end Go.Proofs.Ythhgndcnfdaekaa
end
