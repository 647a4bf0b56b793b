/- The law SinkSteps returns true for every input that the statement takes, without a condition. -/
import Derived.Test.YthhgndcnfdaekaaCt5
section
set_option maxRecDepth 100000
namespace Go.Proofs.Ythhgndcnfdaekaa
open Go.ChangeShapes Go.WideShapes Go.ChangeAt Go.RowKit Go.Am

theorem cells3 : Try.prog.cellsOf 3 = 1 := by kernel_rfl
theorem bytes3 : Try.prog.bytesOf 3 = 8 := by kernel_rfl
theorem rdInts {n : Nat} {x : AV} (h : El EE.P (Cl EE.P n) 55 x) : ∃ l : List Int, x = .isl 1 (mapE int l) ∧ Short l := by
  obtain ⟨m, es, h1, hl, he⟩ := (h.one (by kernel_rfl)).slice Try.underlying55
  obtain ⟨l, rfl, _⟩ := list_enc (enc := int) (ok := fun _ => True) fun x hx => by
    obtain ⟨i, h3⟩ := rdInt (he x hx)
    exact ⟨i, h3, trivial⟩
  rw [cells3] at h1
  exact ⟨l, by simpa using h1, short_of (k := 7) (bytes3 ▸ hl)⟩

theorem steps_lifted (os : Os) (started : os.Started) (H : Type) (enc : TypeId × Value → H) :
    ReturnsInHanded {} Try.checked os 9 .any (Rows.sinkStepsSpec.pre6 enc Try.prog Try.f9 Rows.sinkStepsRow.domain false) (Rows.sinkStepsSpec.post enc Try.prog Try.f9 false true false false) := by
  refine returnsInHanded_of_change_sized (C := Try.checked) Go.Am.Try.own started (by kernel_rfl) Try.func9
    (ChangeSpec.witness6 (enc := enc) (C := Try.checked) false ⟨#[], #[.agg #[.int .i64 0, .slice none 0 0, .slice none 0 0], .slice none 0 0], []⟩ 8 (by kernel_rfl) (by kernel_rfl) (by kernel_rfl) (by kernel_rfl)) ?_
  intro W base args ds gs before hval0 hW hcnd hwt _
  refine law_post (E := EE) rfl Go.Am.Try.kids Go.Am.Try.full rfl (by rw [Try.params9]; decide) (tb := 4) rfl Try.underlying4 (fun ds hds => ?_) hval0 hW hwt fun xs hx _ => ?_
  · match ds, hds with
    | [_, _], _ => rfl
  · rw [Try.params9] at hx
    match xs, hx with
    | [x, y], ⟨⟨_, h1⟩, ⟨_, h2⟩, _⟩ =>
      obtain ⟨s, rfl, hs⟩ := rdSnk h1
      obtain ⟨l, rfl, hl⟩ := rdInts h2
      exact P9 s l hs hl

theorem steps_holds : Rows.SinkStepsSaid :=
  OpenClaim.holds_of_wide 9 Try.f9 rfl rfl rfl rfl rfl rfl rfl ⟨rfl, rfl, rfl, rfl, rfl⟩ rfl rfl rfl rfl rfl (by kernel_rfl) Try.func9 (by kernel_rfl)
    (of_decide_eq_true (by kernel_rfl)) (by unfold Func.isWrapper; first | (rw [if_pos (by decide +kernel)]; kernel_rfl) | (rw [if_neg (by decide +kernel)]; exact ⟨rfl, rfl⟩))
    (fun os started H enc _ => steps_lifted os started H enc)
#print axioms steps_holds
end Go.Proofs.Ythhgndcnfdaekaa
end
