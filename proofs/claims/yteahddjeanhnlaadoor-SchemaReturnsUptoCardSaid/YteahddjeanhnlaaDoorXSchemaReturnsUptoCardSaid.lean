/- parsing the text of a list of event types returns it, also with further spaces and empty lines -/
import Derived.Test.YteahddjeanhnlaaDoorAm6
import Derived.Test.YteahddjeanhnlaaDoorCt2
import Derived.Test.YteahddjeanhnlaaDoorCt4
import Derived.Deep.DeepWitnessRowRef
section
set_option maxHeartbeats 16000000
set_option maxRecDepth 100000
namespace Go.Proofs.YteahddjeanhnlaaDoor
open Go.ChangeShapes Go.WideShapes Go.ChangeAt Go.RowKit Go.Am
theorem laid_met (os : Os) : laidMet Tryd.prog Rows.schemaReturnsUptoRow.laid ((laidW os).forCall (fun _ _ => 0) ⟨#[], #[.slice none 0 0], []⟩).memory :=
 laidMet_of_run' 8 (by kernel_rfl) (by kernel_rfl)
theorem reads (os : Os) {H : Type} (enc : TypeId × Value → H) : ∃ places, DataW.whole enc Tryd.prog ((laidW os).forCall (fun _ _ => 0) ⟨#[], #[.slice none 0 0], []⟩).memory Tryd.f10.params.toList Rows.schemaReturnsSpec.vars false #[.slice none 0 0].toList 8 = some ([.nil], [], places) :=
 ⟨[], by kernel_rfl⟩
theorem lifted (os : Os) (started : os.Started) (H : Type) (enc : TypeId × Value → H) (F : Stop.Interp) :
 ReturnsInHanded {} Tryd.checked os 10 .any ((Rows.OpenSpec.upto Rows.schemaReturnsSpec).preRow enc Tryd.prog Tryd.f10 Rows.schemaReturnsUptoRow.domain false Rows.schemaReturnsUptoRow.laid) (((Rows.OpenSpec.upto Rows.schemaReturnsSpec).at F).post enc Tryd.prog Tryd.f10 false true false false) := by
 obtain ⟨places, hx⟩ := reads os enc
 refine returnsInHanded_of_row (C := Tryd.checked) (s := Rows.OpenSpec.upto Rows.schemaReturnsSpec) Go.Am.own_none started (by kernel_rfl) Tryd.func10
  (witness_row_atRef (enc := enc) (C := Tryd.checked) false (laidW os) #[.slice none 0 0] rfl (by kernel_rfl) (by kernel_rfl) (by kernel_rfl)
   (OpenSpec.preRow_of_cond 8 hx (by kernel_rfl) (fun k hk => by cases hk; kernel_rfl) (by kernel_rfl) (laid_met os))) ?_
 intro W base args ds gs before hval hW _ hcond hwt hL _ _
 have hk := hcond _ rfl
 refine law_postG (E := EE) Go.Am.kidsP Go.Am.fullP rfl (by rw [Tryd.params10]; decide) (tb := 4) rfl Tryd.underlying4 (fun ds hds => ?_) (globE (by simp [Rows.schemaReturnsUptoRow]) hL) hval hW hwt fun xs hx hb => ?_
 · match ds, hds with
   | [_], _ => rfl
 · have hk : Rows.uptoBulkAll (ds ++ gs) ≤ 1048576 := of_decide_eq_true hk
   rw [bulk_upto.2, dBulkAll_append] at hk
   rw [Tryd.params10] at hx
   match xs, hx with
   | [x0], ⟨⟨_, h0⟩, _⟩ =>
    obtain ⟨a0, rfl⟩ := rdSchs h0
    simp only [AV.bulkL] at hb
    exact P_lawReturns a0 (Sch.list_bulk (by omega)).1 (Sch.list_bulk (by omega)).2
theorem saidUpto : Rows.SchemaReturnsUptoSaid :=
 OpenClaim.holds_of_cond 10 Tryd.f10 rfl rfl rfl rfl rfl rfl rfl ⟨rfl, rfl, rfl, rfl, rfl⟩ rfl rfl rfl rfl rfl (by kernel_rfl) Tryd.func10 (by kernel_rfl)
  (of_decide_eq_true (by kernel_rfl)) (by unfold Func.isWrapper; first | (rw [if_pos (by decide +kernel)]; kernel_rfl) | (rw [if_neg (by decide +kernel)]; exact ⟨rfl, rfl⟩))
  (fun os started H enc _ F => by rw [OpenClaim.pre_eq_preRow]; exact lifted os started H enc F)
theorem plain (f : FuncId) (fn : Func) (hf : Tryd.pinned.checked.prog.funcNamed "tidegate/tidegatelaw03.SchemaReturns" = some f) (hfn : Tryd.pinned.checked.prog.funcs[f]? = some fn) :
 false = Tryd.pinned.checked.prog.looks [] ∧ ∀ (j : Nat) t, fn.params[j]? = some t → Tryd.pinned.checked.prog.wantsStandIn t = false := by
 obtain rfl : f = 10 := Option.some.inj ((show Tryd.prog.funcNamed "tidegate/tidegatelaw03.SchemaReturns" = some 10 by kernel_rfl).symm.trans hf) |>.symm
 obtain rfl : fn = Tryd.f10 := (Option.some.inj (Tryd.func10.symm.trans hfn)).symm
 refine ⟨by kernel_rfl, fun j t ht => ?_⟩
 rw [Tryd.params10] at ht
 have := Array.mem_of_getElem? ht
 simp only [List.mem_toArray, List.mem_cons, List.not_mem_nil, or_false] at this
 subst this
 exact (show Tryd.prog.wantsStandIn 26 = false by kernel_rfl)
theorem returns_card : Rows.SchemaReturnsUptoCardSaid :=
 Claim7.holds_tied_plain_at .later [] _ _ _ _ saidUpto (fun _ h => by cases h) (by kernel_rfl) (fun _ h => by cases h) schemaReturnsUpto_row_tie rfl ⟨rfl, rfl⟩ (by kernel_rfl) rfl plain (by kernel_rfl)
#print axioms returns_card
end Go.Proofs.YteahddjeanhnlaaDoor
end
