/- compatibility of event types is reflexive, and transitive with composed indices; an event type is compatible to itself without some fields, in reverse order -/
import Derived.Test.YteahddjeanhnlaaDoorAm6
import Derived.Test.YteahddjeanhnlaaDoorCt2
import Derived.Test.YteahddjeanhnlaaDoorCt4
import Derived.Deep.DeepWitnessRowRef
section
set_option maxHeartbeats 16000000
set_option maxRecDepth 100000
namespace Go.Proofs.YteahddjeanhnlaaDoor
open Go.ChangeShapes Go.WideShapes Go.ChangeAt Go.RowKit Go.Am
theorem laid_met (os : Os) : laidMet Tryd.prog Rows.schemaComposesUptoRow.laid ((laidW os).forCall (fun _ _ => 0) ⟨#[], #[.agg #[.string ⟨#[]⟩, .slice none 0 0], .agg #[.string ⟨#[]⟩, .slice none 0 0], .agg #[.string ⟨#[]⟩, .slice none 0 0]], []⟩).memory :=
 laidMet_of_run' 8 (by kernel_rfl) (by kernel_rfl)
theorem reads (os : Os) {H : Type} (enc : TypeId × Value → H) : ∃ places, DataW.whole enc Tryd.prog ((laidW os).forCall (fun _ _ => 0) ⟨#[], #[.agg #[.string ⟨#[]⟩, .slice none 0 0], .agg #[.string ⟨#[]⟩, .slice none 0 0], .agg #[.string ⟨#[]⟩, .slice none 0 0]], []⟩).memory Tryd.f9.params.toList Rows.schemaComposesSpec.vars false #[.agg #[.string ⟨#[]⟩, .slice none 0 0], .agg #[.string ⟨#[]⟩, .slice none 0 0], .agg #[.string ⟨#[]⟩, .slice none 0 0]].toList 8 = some ([.agg [.lit (.string []), .nil], .agg [.lit (.string []), .nil], .agg [.lit (.string []), .nil]], [], places) :=
 ⟨[], by kernel_rfl⟩
theorem lifted (os : Os) (started : os.Started) (H : Type) (enc : TypeId × Value → H) (F : Stop.Interp) :
 ReturnsInHanded {} Tryd.checked os 9 .any ((Rows.OpenSpec.upto Rows.schemaComposesSpec).preRow enc Tryd.prog Tryd.f9 Rows.schemaComposesUptoRow.domain false Rows.schemaComposesUptoRow.laid) (((Rows.OpenSpec.upto Rows.schemaComposesSpec).at F).post enc Tryd.prog Tryd.f9 false true false false) := by
 obtain ⟨places, hx⟩ := reads os enc
 refine returnsInHanded_of_row (C := Tryd.checked) (s := Rows.OpenSpec.upto Rows.schemaComposesSpec) Go.Am.own_none started (by kernel_rfl) Tryd.func9
  (witness_row_atRef (enc := enc) (C := Tryd.checked) false (laidW os) #[.agg #[.string ⟨#[]⟩, .slice none 0 0], .agg #[.string ⟨#[]⟩, .slice none 0 0], .agg #[.string ⟨#[]⟩, .slice none 0 0]] rfl (by kernel_rfl) (by kernel_rfl) (by kernel_rfl)
   (OpenSpec.preRow_of_cond 8 hx (by kernel_rfl) (fun k hk => by cases hk; kernel_rfl) (by kernel_rfl) (laid_met os))) ?_
 intro W base args ds gs before hval hW _ hcond hwt hL _ _
 have hk := hcond _ rfl
 refine law_postG (E := EE) Go.Am.kidsP Go.Am.fullP rfl (by rw [Tryd.params9]; decide) (tb := 4) rfl Tryd.underlying4 (fun ds hds => ?_) (globE (by simp [Rows.schemaComposesUptoRow]) hL) hval hW hwt fun xs hx hb => ?_
 · match ds, hds with
   | [_, _, _], _ => rfl
 · have hk : Rows.uptoBulkAll (ds ++ gs) ≤ 1048576 := of_decide_eq_true hk
   rw [bulk_upto.2, dBulkAll_append] at hk
   rw [Tryd.params9] at hx
   match xs, hx with
   | [x0, x1, x2], ⟨⟨_, h0⟩, ⟨_, h1⟩, ⟨_, h2⟩, _⟩ =>
    obtain ⟨a0, rfl⟩ := rdSch h0
    obtain ⟨a1, rfl⟩ := rdSch h1
    obtain ⟨a2, rfl⟩ := rdSch h2
    simp only [AV.bulkL] at hb
    exact P_lawComposes a0 a1 a2 (Sch.short_bulk (by omega)) (Sch.short_bulk (by omega)) (Sch.short_bulk (by omega))
theorem saidUpto : Rows.SchemaComposesUptoSaid :=
 OpenClaim.holds_of_cond 9 Tryd.f9 rfl rfl rfl rfl rfl rfl rfl ⟨rfl, rfl, rfl, rfl, rfl⟩ rfl rfl rfl rfl rfl (by kernel_rfl) Tryd.func9 (by kernel_rfl)
  (of_decide_eq_true (by kernel_rfl)) (by unfold Func.isWrapper; first | (rw [if_pos (by decide +kernel)]; kernel_rfl) | (rw [if_neg (by decide +kernel)]; exact ⟨rfl, rfl⟩))
  (fun os started H enc _ F => by rw [OpenClaim.pre_eq_preRow]; exact lifted os started H enc F)
theorem plain (f : FuncId) (fn : Func) (hf : Tryd.pinned.checked.prog.funcNamed "tidegate/tidegatelaw03.SchemaComposes" = some f) (hfn : Tryd.pinned.checked.prog.funcs[f]? = some fn) :
 false = Tryd.pinned.checked.prog.looks [] ∧ ∀ (j : Nat) t, fn.params[j]? = some t → Tryd.pinned.checked.prog.wantsStandIn t = false := by
 obtain rfl : f = 9 := Option.some.inj ((show Tryd.prog.funcNamed "tidegate/tidegatelaw03.SchemaComposes" = some 9 by kernel_rfl).symm.trans hf) |>.symm
 obtain rfl : fn = Tryd.f9 := (Option.some.inj (Tryd.func9.symm.trans hfn)).symm
 refine ⟨by kernel_rfl, fun j t ht => ?_⟩
 rw [Tryd.params9] at ht
 have := Array.mem_of_getElem? ht
 simp only [List.mem_toArray, List.mem_cons, List.not_mem_nil, or_false] at this
 rcases this with rfl | rfl | rfl
 · exact (show Tryd.prog.wantsStandIn 24 = false by kernel_rfl)
 · exact (show Tryd.prog.wantsStandIn 24 = false by kernel_rfl)
 · exact (show Tryd.prog.wantsStandIn 24 = false by kernel_rfl)
theorem composes_card : Rows.SchemaComposesUptoCardSaid :=
 Claim7.holds_tied_plain_at .later [] _ _ _ _ saidUpto (fun _ h => by cases h) (by kernel_rfl) (fun _ h => by cases h) schemaComposesUpto_row_tie rfl ⟨rfl, rfl⟩ (by kernel_rfl) rfl plain (by kernel_rfl)
#print axioms composes_card
end Go.Proofs.YteahddjeanhnlaaDoor
end
