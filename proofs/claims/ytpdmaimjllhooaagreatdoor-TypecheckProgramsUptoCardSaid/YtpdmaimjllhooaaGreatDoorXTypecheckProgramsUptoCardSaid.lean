/- Program returns the index and the error of the reference -/
import Derived.Test.YtpdmaimjllhooaaGreatDoorRCt23
import Derived.Test.YtpdmaimjllhooaaGreatDoorRCt22
section
set_option maxHeartbeats 16000000
set_option maxRecDepth 100000
namespace Go.Proofs.YtpdmaimjllhooaaGreatDoor
open Go.ChangeShapes Go.WideShapes Go.ChangeAt Go.RowKit Go.Am
theorem laid_met (os:Os):laidMet Tryz.prog Rows.typecheckProgramsUptoRow.laid ((laidWorld os).forCall (fun _ _=>0) ⟨#[],#[.agg #[.slice none 0 0,.slice none 0 0]],[]⟩).memory :=
 laidMet_of_run' 8 (by kernel_rfl) (by kernel_rfl)
theorem reads (os:Os) {H:Type} (enc:TypeId × Value→H):∃ places,DataW.whole enc Tryz.prog ((laidWorld os).forCall (fun _ _=>0) ⟨#[],#[.agg #[.slice none 0 0,.slice none 0 0]],[]⟩).memory Tryz.f9.params.toList Rows.typecheckProgramsSpec.vars false #[.agg #[.slice none 0 0,.slice none 0 0]].toList 8=some ([.agg [.nil,.nil]],[],places) :=
 ⟨[],by kernel_rfl⟩
theorem lifted (os:Os) (started:os.Started) (H:Type) (enc:TypeId × Value→H) (F:Stop.Interp) :
 ReturnsInHanded {} Tryz.checked os 9 .any ((Rows.OpenSpec.upto Rows.typecheckProgramsSpec).preRow enc Tryz.prog Tryz.f9 Rows.typecheckProgramsUptoRow.domain false Rows.typecheckProgramsUptoRow.laid) (((Rows.OpenSpec.upto Rows.typecheckProgramsSpec).at F).post enc Tryz.prog Tryz.f9 false true false false):=by
 obtain ⟨places,hx⟩:=reads os enc
 refine returnsInHanded_of_row (C:=Tryz.checked) (s:=Rows.OpenSpec.upto Rows.typecheckProgramsSpec) Go.Am.own_none started (by kernel_rfl) Tryz.func9
  (witness_row_at (enc:=enc) (C:=Tryz.checked) false (laidWorld os) #[.agg #[.slice none 0 0,.slice none 0 0]] rfl (by kernel_rfl) (by kernel_rfl) (by kernel_rfl)
   (OpenSpec.preRow_of_cond 8 hx (by kernel_rfl) (fun k hk=>by cases hk;kernel_rfl) (by kernel_rfl) (laid_met os))) ?_
 intro W base args ds gs before hval hW _ hcond hwt hL hsh _
 have hk:=hcond _ rfl
 refine law_postG (E:=EL) Go.Am.kidsP Go.Am.fullP rfl (by rw [Tryz.params9];decide) (tb:=4) rfl Tryz.underlying4 (fun ds hds=>?_) (globL (laid:=[("tidegate/pattern.shapes",Rows.laid_tidegate_pattern_shapes),("tidegate/scope.table",Rows.laid_tidegate_scope_table)]) (by simp) (by simp) hL hsh) hval hW hwt fun xs hx hb=>?_
 · match ds,hds with
   | [_],_=>rfl
 have hk:Rows.uptoBulkAll (ds++gs)≤1048576:=of_decide_eq_true hk
 rw [bulk_upto.2,dBulkAll_append] at hk
 rw [Tryz.params9] at hx
 match xs,hx with
 | [x0],⟨⟨_,h0⟩,_⟩ =>
  obtain ⟨a0,b0,rfl⟩:=rdPg h0
  simp only [AV.bulkL] at hb
  have h2:=@g_bulk 1048576 (.isl 2 (mapE Sch.enc a0)) (.isl 18 (mapE Qy.enc b0)) (by omega)
  have qk:=@Qy.list_ok b0 h2.2
  exact P_lawPrograms a0 b0 (Sch.ts_bulk h2.1) (by have:=qk.1;omega) qk.2
theorem saidUpto : Rows.TypecheckProgramsUptoSaid :=
 OpenClaim.holds_of_cond 9 Tryz.f9 rfl rfl rfl rfl rfl rfl rfl ⟨rfl,rfl,rfl,rfl,rfl⟩ rfl rfl rfl rfl rfl (by kernel_rfl) Tryz.func9 (by kernel_rfl)
  (of_decide_eq_true (by kernel_rfl)) (by unfold Func.isWrapper;first | (rw [if_pos (by decide +kernel)];kernel_rfl) | (rw [if_neg (by decide +kernel)];exact ⟨rfl,rfl⟩))
  (fun os started H enc _ F=>by rw [OpenClaim.pre_eq_preRow];exact lifted os started H enc F)
theorem plain (f:FuncId) (fn:Func) (hf:Tryz.pinned.checked.prog.funcNamed "tidegate/tidegatelaw16.TypecheckPrograms" = some f) (hfn:Tryz.pinned.checked.prog.funcs[f]? = some fn) :
 false=Tryz.pinned.checked.prog.looks []∧∀ (j:Nat) t,fn.params[j]? = some t→Tryz.pinned.checked.prog.wantsStandIn t=false:=by
 obtain rfl:f=9:=Option.some.inj ((show Tryz.prog.funcNamed "tidegate/tidegatelaw16.TypecheckPrograms" = some 9 by kernel_rfl).symm.trans hf) |>.symm
 obtain rfl:fn=Tryz.f9:=(Option.some.inj (Tryz.func9.symm.trans hfn)).symm
 refine ⟨by kernel_rfl,fun j t ht=>?_⟩
 rw [Tryz.params9] at ht
 have:=Array.mem_of_getElem? ht
 simp only [List.mem_toArray,List.mem_cons,List.not_mem_nil,or_false] at this
 subst this
 exact (show Tryz.prog.wantsStandIn 70=false by kernel_rfl)
theorem programs_card : Rows.TypecheckProgramsUptoCardSaid :=
 Claim7.holds_tied_plain_at .later [] _ _ _ _ saidUpto (fun _ h=>by cases h) (by kernel_rfl) (fun _ h=>by cases h) typecheckProgramsUpto_row_tie rfl ⟨rfl,rfl⟩ (by kernel_rfl) rfl plain (by kernel_rfl)
end Go.Proofs.YtpdmaimjllhooaaGreatDoor
end
