/- Contracts of the program's functions. -/
import Derived.Test.YtpdmaimjllhooaaGreatDoorCards
import Derived.Test.YtpdmaimjllhooaaGreatDoorProg
import Derived.Test.YtpdmaimjllhooaaGreatDoorRows
import Derived.Test.YtpdmaimjllhooaaGreatDoorTie
import Derived.Test.YtpdmaimjllhooaaGreatDoorPCt4
section
set_option maxHeartbeats 16000000
set_option maxRecDepth 100000
namespace Go.Am
open Go.Proofs Go.ChangeShapes Go.WideShapes Go.ChangeAt Go.RowKit
theorem gShapes : Tryz.prog.globalNamed "tidegate/pattern.shapes" = some 1:=by kernel_rfl
theorem gShapesT : ∃ t,(Tryz.prog.globals[1]?).map (·.type)=some t∧uo Tryz.prog 8 t=true:=⟨_,rfl,by kernel_rfl⟩
theorem gTable : Tryz.prog.globalNamed "tidegate/scope.table" = some 0:=by kernel_rfl
theorem gTableT : ∃ t,(Tryz.prog.globals[0]?).map (·.type)=some t∧uo Tryz.prog 8 t=true:=⟨_,rfl,by kernel_rfl⟩
theorem glob_of_laid {laid:List (String × DataW Unit)} (hm:("tidegate/pattern.shapes",Proofs.YtpdmaimjllhooaaGreatDoor.Rows.laid_tidegate_pattern_shapes)∈laid) (hm2:("tidegate/scope.table",Proofs.YtpdmaimjllhooaaGreatDoor.Rows.laid_tidegate_scope_table)∈laid) {W:World} (h:laidMet Tryz.prog laid W) :
 ∀ g,VRep ⟨fun _=>none,fun b=>b<W.heap.size⟩ 0 W (EE.G g) (.pointer (some ⟨g,0,none⟩)):=by
 intro g
 obtain ⟨ps,hv,_⟩:=h
 obtain ⟨t,ht,hf⟩:=gShapesT
 obtain ⟨t2,ht2,hf2⟩:=gTableT
 have hc:=laid_cells hv hm gShapes ht hf
 have hc2:=laid_cells hv hm2 gTable ht2 hf2
 show VRep _ 0 W (cond (Nat.beq g 1) (.iptr (Classical.choice wW).g) (cond (Nat.beq g 0) (.iptr (Classical.choice wN).g) .undef)) _
 cases hb:Nat.beq g 1 with
 | false =>
  show VRep _ 0 W (cond (Nat.beq g 0) (.iptr (Classical.choice wN).g) .undef) _
  cases hb2:Nat.beq g 0 with
  | false=>exact .undef _
  | true =>
   obtain rfl:=Nat.eq_of_beq_eq_true hb2
   have e:tz (H:=Unit) Proofs.YtpdmaimjllhooaaGreatDoor.Rows.laid_tidegate_scope_table=scTabL:=by rfl
   rw [e] at hc2
   exact glob_rep hc2 gTable (Classical.choice wN).h (by
    intro v hv c h
    subst h
    have h2:scTabL.all (fun v=>match v with | .agg _=>false | _=>true)=true:=by rfl
    exact Bool.noConfusion (List.all_eq_true.1 h2 _ hv))
 | true =>
  obtain rfl:=Nat.eq_of_beq_eq_true hb
  have e:tz (H:=Unit) Proofs.YtpdmaimjllhooaaGreatDoor.Rows.laid_tidegate_pattern_shapes=shapesL:=by rfl
  rw [e] at hc
  exact glob_rep hc gShapes (Classical.choice wW).h (by
   intro v hv c h
   subst h
   have h2:shapesL.all (fun v=>match v with | .agg _=>false | _=>true)=true:=by rfl
   exact Bool.noConfusion (List.all_eq_true.1 h2 _ hv))
theorem Ex.list_sm {l:List Ex} (h:(AV.isl 8 (mapE Ex.enc l)).bulk≤1048576):(∀ e∈l,e.Sm)∧l.length<1048577:=by
 simp only [AV.bulk] at h
 have h1:=Ex.cntL_bulk (l:=l) fun e _=>Ex.cnt_bulk e
 have h2:=Ex.cntL_len l
 exact ⟨fun e he=>by have:=Ex.cnt_mem he;unfold Ex.Sm;omega,by omega⟩
noncomputable def laidHeap (os:Os):Array Obj:=(World.holding Tryz.prog os ⟨#[],#[],[]⟩).heap.modify 1 fun
      | .cells _ t frozen=>.cells #[.int .i64 0,.int .i64 0,.bool true,.bool true,.bool false,.bool false,
  .int .i64 2,.int .i64 64,.bool false,.bool false,.bool false,.bool false,
  .int .i64 2,.int .i64 64,.bool false,.bool false,.bool false,.bool false,
  .int .i64 2,.int .i64 64,.bool false,.bool false,.bool false,.bool false,
  .int .i64 1,.int .i64 1,.bool false,.bool false,.bool false,.bool false,
  .int .i64 1,.int .i64 1,.bool true,.bool true,.bool true,.bool false,
  .int .i64 1,.int .i64 1,.bool false,.bool false,.bool true,.bool true,
  .int .i64 1,.int .i64 1,.bool false,.bool true,.bool false,.bool false,
  .int .i64 2,.int .i64 2,.bool false,.bool false,.bool false,.bool false,
  .int .i64 1,.int .i64 1,.bool true,.bool true,.bool true,.bool false,
  .int .i64 1,.int .i64 1,.bool false,.bool false,.bool true,.bool true] t frozen
      | o=>o
noncomputable def laidHeap2 (os:Os):Array Obj:=(laidHeap os).modify 0 fun
      | .cells _ t frozen=>.cells #[.bool true,.bool true,.bool true,.bool false,.bool false,.bool false,.bool true,.bool false,.bool false,.bool false,.bool true,.bool true,.bool true,.bool false,.bool true,.bool true] t frozen
      | o=>o
noncomputable def laidWorld (os:Os):World :=
 { World.holding Tryz.prog os ⟨#[],#[],[]⟩ with heap:=laidHeap2 os }
end Go.Am
end
