/- Contracts of the program's functions. -/
import Derived.Test.YtpdmaimjllhooaaGreatDoorRCt1
import Derived.Test.YtpdmaimjllhooaaGreatDoorProg
import Derived.Test.YtpdmaimjllhooaaGreatDoorRows
import Derived.Test.YtpdmaimjllhooaaGreatDoorCards
import Derived.Test.YtpdmaimjllhooaaGreatDoorTie
section
set_option maxHeartbeats 16000000
set_option maxRecDepth 20000
namespace Go.Am
open Go.Proofs Go.ChangeShapes Go.WideShapes Go.ChangeAt Go.RowKit
theorem cellsE : Tryz.prog.cellsOf 28=8:=by kernel_rfl
theorem cellsP : Tryz.prog.cellsOf 39=14:=by kernel_rfl
theorem aggE : wS EE.P 28=true:=by kernel_rfl
theorem aggP : wS EE.P 39=true:=by kernel_rfl
theorem rdInt {n:Nat} {x:AV} (h:El EE.P (Cl EE.P n) 3 x):∃ i,x=int i:=by
 obtain ⟨i,h,_⟩:=(h.one (by kernel_rfl)).int Tryz.underlying3
 exact ⟨i,by simpa using h⟩
theorem rdEx : ∀ (k:Nat) (x:AV),SizeOf.sizeOf x≤k→∀ n,El EE.P (Cl EE.P n) 28 x→∃ e:Ex,x=e.enc:=by
 intro k
 induction k with
 | zero=>intro x hk n h;cases x<;>simp at hk<;>omega
 | succ k ih =>
  intro x hk n h
  obtain ⟨cs,rfl,g⟩:=h.agg aggE
  obtain ⟨m,a,r,rfl,ha,b,r,rfl,hb,c,r,rfl,hc,d,r,rfl,hd,e,r,rfl,he,f,r,rfl,hf,rfl⟩:=g.struct Tryz.underlying28
  obtain ⟨i1,rfl,_⟩:=ha.int Tryz.underlying3
  obtain ⟨m2,es,rfl,hl,hes⟩:=hb.slice Tryz.underlying24
  obtain ⟨i3,rfl,_⟩:=hc.int Tryz.underlying3
  obtain ⟨i4,rfl,_⟩:=hd.int Tryz.underlying3
  obtain ⟨i5,rfl,_⟩:=he.int Tryz.underlying3
  obtain ⟨m3,a,r,rfl,ha,b,r,rfl,hb,c,r,rfl,hc,rfl⟩:=hf.struct Tryz.underlying26
  obtain ⟨i6,rfl,_⟩:=ha.int Tryz.underlying3
  obtain ⟨i7,rfl,_⟩:=hb.int Tryz.underlying3
  obtain ⟨s,rfl,_⟩:=hc.str Tryz.underlying9
  obtain ⟨l,rfl,_⟩:=xN (enc:=Ex.enc) (ok:=fun _=>True) fun x hx=>by
   have h1:=List.sizeOf_lt_of_mem hx
   obtain ⟨q,hq⟩:=ih x (by simp only [List.cons_append,List.nil_append,AV.agg.sizeOf_spec,List.cons.sizeOf_spec,AV.isl.sizeOf_spec] at hk;omega) m2 (hes x hx)
   exact ⟨q,hq,trivial⟩
  exact ⟨.mk i1 l i3 i4 i5 ⟨i6,i7,s⟩,by rw [Ex.enc_mk,cellsE];rfl⟩
theorem rdPat : ∀ (k:Nat) (x:AV),SizeOf.sizeOf x≤k→∀ n,El EE.P (Cl EE.P n) 39 x→∃ p:Pat,x=p.enc:=by
 intro k
 induction k with
 | zero=>intro x hk n h;cases x<;>simp at hk<;>omega
 | succ k ih =>
  intro x hk n h
  obtain ⟨cs,rfl,g⟩:=h.agg aggP
  obtain ⟨m,a,r,rfl,ha,b,r,rfl,hb,c,r,rfl,hc,d,r,rfl,hd,e,r,rfl,he,f,r,rfl,hf,g2,r,rfl,hg,rfl⟩:=g.struct Tryz.underlying39
  obtain ⟨i1,rfl,_⟩:=ha.int Tryz.underlying3
  obtain ⟨m2,es,rfl,hl,hes⟩:=hb.slice Tryz.underlying37
  obtain ⟨i3,rfl,_⟩:=hc.int Tryz.underlying3
  obtain ⟨i4,rfl,_⟩:=hd.int Tryz.underlying3
  obtain ⟨i5,rfl,_⟩:=he.int Tryz.underlying3
  obtain ⟨i6,rfl,_⟩:=hf.int Tryz.underlying3
  obtain ⟨ce,hce⟩:=rdEx _ (.agg g2) (Nat.le_refl _) m (by unfold El;rw [aggE];exact ⟨g2,rfl,hg⟩)
  obtain ⟨co,ca,cv,cf,ck,cx⟩:=ce
  rw [Ex.enc_mk] at hce
  injection hce with hce
  subst hce
  obtain ⟨l,rfl,_⟩:=xN (enc:=Pat.enc) (ok:=fun _=>True) fun x hx=>by
   have h1:=List.sizeOf_lt_of_mem hx
   obtain ⟨q,hq⟩:=ih x (by simp only [List.cons_append,List.nil_append,AV.agg.sizeOf_spec,List.cons.sizeOf_spec,AV.isl.sizeOf_spec] at hk;omega) m2 (hes x hx)
   exact ⟨q,hq,trivial⟩
  exact ⟨.mk i1 l i3 i4 i5 i6 (.mk co ca cv cf ck cx),by rw [Pat.enc_mk,cellsP];rfl⟩
theorem Ex.cntL_bulk {l:List Ex} (h:∀ e∈l,e.cnt≤e.enc.bulk):Ex.cntL l≤AV.bulkL (mapE Ex.enc l):=by
 induction l with
 | nil=>simp [Ex.cntL]
 | cons e r ih =>
  have h1:=h e (by simp)
  have h2:=ih fun e he=>h e (by simp [he])
  rw [zk] at h2 ⊢
  simp only [List.map_cons,AV.bulkL,Ex.cntL];omega
theorem Ex.cnt_bulk : ∀ e:Ex,e.cnt≤e.enc.bulk:=Ex.ind fun o a v f k x h=>by
 have:=Ex.cntL_bulk h
 rw [Ex.enc_mk]
 simp only [Ex.cnt,AV.bulk,AV.bulkL];omega
theorem Pat.cntL_bulk {l:List Pat} (h:∀ e∈l,e.cnt≤e.enc.bulk∧∀ c∈e.exs,c.cnt≤e.enc.bulk):Pat.cntL l≤AV.bulkL (mapE Pat.enc l)∧∀ c∈Pat.exsL l,c.cnt≤AV.bulkL (mapE Pat.enc l):=by
 induction l with
 | nil=>simp [Pat.cntL,Pat.exsL]
 | cons e r ih =>
  have h1:=h e (by simp)
  have h2:=ih fun e he=>h e (by simp [he])
  rw [zk] at h2 ⊢
  simp only [List.map_cons,AV.bulkL,Pat.cntL,Pat.exsL,List.mem_append]
  refine ⟨by omega,fun c hc=>?_⟩
  rcases hc with hc | hc
  · have:=h1.2 c hc;omega
  have:=h2.2 c hc;omega
theorem Pat.cnt_bulk : ∀ e:Pat,e.cnt≤e.enc.bulk∧∀ c∈e.exs,c.cnt≤e.enc.bulk:=Pat.ind fun o a t v s n c h=>by
 have h1:=Pat.cntL_bulk h
 obtain ⟨co,ca,cv,cf,ck,cx⟩:=c
 have h2:=Ex.cnt_bulk (.mk co ca cv cf ck cx)
 rw [Ex.enc_mk] at h2
 rw [Pat.enc_mk]
 simp only [Pat.cnt,Pat.exs,List.mem_cons,AV.bulk,AV.bulkL] at h2 ⊢
 refine ⟨by omega,fun c hc=>?_⟩
 rcases hc with rfl | hc
 · omega
 have:=h1.2 c hc;omega
theorem Pat.sm_of {p:Pat} (h:p.enc.bulk≤1048576):p.Sm:=by
 have:=Pat.cnt_bulk p
 exact ⟨by omega,fun c hc=>by have:=this.2 c hc;unfold Ex.Sm;omega⟩
theorem Ex.sm_of {p:Ex} (h:p.enc.bulk≤1048576):p.Sm:=by
 have:=Ex.cnt_bulk p
 unfold Ex.Sm;omega
theorem bulk_upto {H:Type}:(∀ d:DataW H,Proofs.YtpdmaimjllhooaaGreatDoor.Rows.uptoBulk d=xr d)∧(∀ d:List (DataW H),Proofs.YtpdmaimjllhooaaGreatDoor.Rows.uptoBulkAll d=dBulkAll d):=by
 have:∀ k:Nat,(∀ d:DataW H,SizeOf.sizeOf d≤k→Proofs.YtpdmaimjllhooaaGreatDoor.Rows.uptoBulk d=xr d)∧(∀ d:List (DataW H),SizeOf.sizeOf d≤k→Proofs.YtpdmaimjllhooaaGreatDoor.Rows.uptoBulkAll d=dBulkAll d)∧(∀ d:List (Lit × DataW H),SizeOf.sizeOf d≤k→Proofs.YtpdmaimjllhooaaGreatDoor.Rows.uptoBulkEntries d=dBulkEntries d)∧(∀ d:Lit × DataW H,SizeOf.sizeOf d≤k→Proofs.YtpdmaimjllhooaaGreatDoor.Rows.uptoBulkEntry d=dBulkEntry d):=by
  intro k
  induction k with
  | zero =>
   refine ⟨fun d h=>?_,fun d h=>?_,fun d h=>?_,fun d h=>?_⟩
   · cases d<;>simp at h<;>omega
   · cases d<;>simp at h<;>omega
   · cases d<;>simp at h<;>omega
   obtain ⟨a,b⟩:=d;simp at h<;>omega
  | succ k ih =>
   obtain ⟨i1,i2,i3,i4⟩:=ih
   refine ⟨fun d h=>?_,fun d h=>?_,fun d h=>?_,fun d h=>?_⟩
   · cases d with
     | lit l=>cases l<;>simp [Proofs.YtpdmaimjllhooaaGreatDoor.Rows.uptoBulk,xr]
     | nil=>simp [Proofs.YtpdmaimjllhooaaGreatDoor.Rows.uptoBulk,xr]
     | ptr d=>simp only [Proofs.YtpdmaimjllhooaaGreatDoor.Rows.uptoBulk,xr];rw [i1 d (by simp at h;omega)]
     | slice a b=>simp only [Proofs.YtpdmaimjllhooaaGreatDoor.Rows.uptoBulk,xr];rw [i2 a (by simp at h;omega),i2 b (by simp at h;omega)]
     | agg a=>simp only [Proofs.YtpdmaimjllhooaaGreatDoor.Rows.uptoBulk,xr];rw [i2 a (by simp at h;omega)]
     | iface t d=>simp only [Proofs.YtpdmaimjllhooaaGreatDoor.Rows.uptoBulk,xr];rw [i1 d (by simp at h;omega)]
     | map a=>simp only [Proofs.YtpdmaimjllhooaaGreatDoor.Rows.uptoBulk,xr];rw [i3 a (by simp at h;omega)]
     | held a=>simp only [Proofs.YtpdmaimjllhooaaGreatDoor.Rows.uptoBulk,xr]
   · cases d with
     | nil=>simp only [Proofs.YtpdmaimjllhooaaGreatDoor.Rows.uptoBulkAll,dBulkAll]
     | cons x r=>simp only [Proofs.YtpdmaimjllhooaaGreatDoor.Rows.uptoBulkAll,dBulkAll];rw [i1 x (by simp at h;omega),i2 r (by simp at h;omega)]
   · cases d with
     | nil=>simp only [Proofs.YtpdmaimjllhooaaGreatDoor.Rows.uptoBulkEntries,dBulkEntries]
     | cons x r=>simp only [Proofs.YtpdmaimjllhooaaGreatDoor.Rows.uptoBulkEntries,dBulkEntries];rw [i4 x (by simp at h;omega),i3 r (by simp at h;omega)]
   obtain ⟨l,b⟩:=d
   cases l<;>(simp only [Proofs.YtpdmaimjllhooaaGreatDoor.Rows.uptoBulkEntry,dBulkEntry];rw [i1 b (by simp at h;omega)])
 exact ⟨fun d=>(this _).1 d (Nat.le_refl _),fun d=>(this _).2.1 d (Nat.le_refl _)⟩
theorem own_none : ownKnob Tryz.prog.godebug=none:=by kernel_rfl
theorem kidsP : Kids EE.P (· < EE.P.types.size):=kids_rows (by kernel_rfl) (by kernel_rfl)
theorem fullP : ∀ t e,t<EE.P.types.size→EE.P.underlying t=some (.slice e)→0<EE.P.cellsOf e:=slices_full_of EE.P (by kernel_rfl)
end Go.Am
end
section
set_option maxHeartbeats 16000000
set_option maxRecDepth 100000
namespace Go.Am
open Go.Proofs Go.ChangeShapes Go.WideShapes Go.ChangeAt Go.RowKit
theorem gShapes : Tryz.prog.globalNamed "tidegate/pattern.shapes" = some 1:=by kernel_rfl
theorem gShapesT : ∃ t,(Tryz.prog.globals[1]?).map (·.type)=some t∧up Tryz.prog 8 t=true:=⟨_,rfl,by kernel_rfl⟩
theorem gTable : Tryz.prog.globalNamed "tidegate/scope.table" = some 0:=by kernel_rfl
theorem gTableT : ∃ t,(Tryz.prog.globals[0]?).map (·.type)=some t∧up Tryz.prog 8 t=true:=⟨_,rfl,by kernel_rfl⟩
theorem glob_of_laid {laid:List (String × DataW Unit)} (hm:("tidegate/pattern.shapes",Proofs.YtpdmaimjllhooaaGreatDoor.Rows.laid_tidegate_pattern_shapes)∈laid) (hm2:("tidegate/scope.table",Proofs.YtpdmaimjllhooaaGreatDoor.Rows.laid_tidegate_scope_table)∈laid) {W:World} (h:laidMet Tryz.prog laid W) :
 ∀ g,VRep ⟨fun _=>none,fun b=>b<W.heap.size⟩ 0 W (EE.G g) (.pointer (some ⟨g,0,none⟩)):=by
 intro g
 obtain ⟨ps,hv,_⟩:=h
 obtain ⟨t,ht,hf⟩:=gShapesT
 obtain ⟨t2,ht2,hf2⟩:=gTableT
 have hc:=laid_cells hv hm gShapes ht hf
 have hc2:=laid_cells hv hm2 gTable ht2 hf2
 show VRep _ 0 W (cond (Nat.beq g 1) (.iptr (Classical.choice wj).g) (cond (Nat.beq g 0) (.iptr (Classical.choice wT).g) .undef)) _
 cases hb:Nat.beq g 1 with
 | false =>
  show VRep _ 0 W (cond (Nat.beq g 0) (.iptr (Classical.choice wT).g) .undef) _
  cases hb2:Nat.beq g 0 with
  | false=>exact .undef _
  | true =>
   obtain rfl:=Nat.eq_of_beq_eq_true hb2
   have e:tm (H:=Unit) Proofs.YtpdmaimjllhooaaGreatDoor.Rows.laid_tidegate_scope_table=scTabL:=by rfl
   rw [e] at hc2
   exact glob_rep hc2 gTable (Classical.choice wT).h (by
    intro v hv c h
    subst h
    have h2:scTabL.all (fun v=>match v with | .agg _=>false | _=>true)=true:=by rfl
    exact Bool.noConfusion (List.all_eq_true.1 h2 _ hv))
 | true =>
  obtain rfl:=Nat.eq_of_beq_eq_true hb
  have e:tm (H:=Unit) Proofs.YtpdmaimjllhooaaGreatDoor.Rows.laid_tidegate_pattern_shapes=shapesL:=by rfl
  rw [e] at hc
  exact glob_rep hc gShapes (Classical.choice wj).h (by
   intro v hv c h
   subst h
   have h2:shapesL.all (fun v=>match v with | .agg _=>false | _=>true)=true:=by rfl
   exact Bool.noConfusion (List.all_eq_true.1 h2 _ hv))
theorem Ex.list_sm {l:List Ex} (h:(AV.isl 8 (mapE Ex.enc l)).bulk≤1048576):(∀ e∈l,e.Sm)∧l.length<1048577:=by
 simp only [AV.bulk] at h
 have h1:=Ex.cntL_bulk (l:=l) fun e _=>Ex.cnt_bulk e
 have h2:=Ex.cntL_len l
 exact ⟨fun e he=>by have:=Ex.cnt_mem he;unfold Ex.Sm;omega,by omega⟩
noncomputable def laidHeap (os:Os):Array Obj:=(World.holding Tryz.prog os ⟨#[],#[],[]⟩).heap.modify 1 fun
      | .cells _ t frozen=>.cells #[.int .i64 0,.int .i64 0,.bool true,.bool true,.bool false,.bool false,
  .int .i64 2,.int .i64 64,.bool false,.bool false,.bool false,.bool false,
  .int .i64 2,.int .i64 64,.bool false,.bool false,.bool false,.bool false,
  .int .i64 2,.int .i64 64,.bool false,.bool false,.bool false,.bool false,
  .int .i64 1,.int .i64 1,.bool false,.bool false,.bool false,.bool false,
  .int .i64 1,.int .i64 1,.bool true,.bool true,.bool true,.bool false,
  .int .i64 1,.int .i64 1,.bool false,.bool false,.bool true,.bool true,
  .int .i64 1,.int .i64 1,.bool false,.bool true,.bool false,.bool false,
  .int .i64 2,.int .i64 2,.bool false,.bool false,.bool false,.bool false,
  .int .i64 1,.int .i64 1,.bool true,.bool true,.bool true,.bool false,
  .int .i64 1,.int .i64 1,.bool false,.bool false,.bool true,.bool true] t frozen
      | o=>o
noncomputable def laidHeap2 (os:Os):Array Obj:=(laidHeap os).modify 0 fun
      | .cells _ t frozen=>.cells #[.bool true,.bool true,.bool true,.bool false,.bool false,.bool false,.bool true,.bool false,.bool false,.bool false,.bool true,.bool true,.bool true,.bool false,.bool true,.bool true] t frozen
      | o=>o
noncomputable def laidWorld (os:Os):World :=
 { World.holding Tryz.prog os ⟨#[],#[],[]⟩ with heap:=laidHeap2 os }
end Go.Am
end
section
set_option maxHeartbeats 16000000
set_option maxRecDepth 100000
namespace Go.Am
open Go.Proofs
def tU (nm:Bs):List Fld→Int→Int
 | [],_=>-1
 | f :: r,i=>if f.nm=nm then i else tU nm r (i+1)
def Fld.pos (l:List Fld) (nm:Bs):Int:=tU nm l 0
theorem posF_app {nm:Bs}:∀ (d r:List Fld) (i:Int),(∀ f∈d,f.nm≠nm)→tU nm (d++r) i=tU nm r (i+d.length)
 | [],r,i,_=>by simp
 | f :: d,r,i,h=>by
  rw [List.cons_append,tU,if_neg (h f (by simp)),posF_app d r (i+1) fun x hx=>h x (by simp [hx])]
  congr 1;simp;omega
theorem pos_hit {nm:Bs} {l d r:List Fld} {f:Fld} (h:l=d++f :: r) (hd:∀ f∈d,f.nm≠nm) (hf:f.nm=nm):Fld.pos l nm=d.length:=by
 rw [Fld.pos,h,posF_app d _ 0 hd,tU,if_pos hf];omega
theorem pos_miss {nm:Bs} {l:List Fld} (hd:∀ f∈l,f.nm≠nm):Fld.pos l nm = -1:=by
 have:=posF_app l [] 0 hd
 rw [List.append_nil] at this
 rw [Fld.pos,this,tU]
theorem P_refPosition (q:Sch) (nm:Bs) (hl:q.fs.length<1152921504606846976):PCall EE 125 [q.enc,str (ba nm)] (int (Fld.pos q.fs nm)):=by
 have kcl:=Fld.closedI q.fs
 rw [Sch.enc_eq]
 generalize q.fs=l at *
 obtain ⟨P,hP⟩:∃ P,P=Fld.pos l nm:=⟨_,rfl⟩
 rw [← hP]
 have heq:∀ f:Fld,((ba f.nm).toList == (ba nm).toList)=decide (f.nm=nm):=fun f=>ba_eqB _ _
 generalize hs:ba nm=s at *
 generalize ba q.nm=qn at *
 refine zr ?_;unhygienic intros
 generalize hes:mapE Fld.enc l=es at *
 have hel:es.length=l.length:=by rw [← hes,zq]
 have kcA:AV.closedL [str qn,.isl 2 es]=true:=by simp [AV.closedL,xb,kcl]
 refine fB T125 [.t 4] ?_
 refine Aq ?_
 refine zf (ι:=List Fld × List Fld × Int) (fun p=>([(5,int p.2.2),(2,.iptr [str qn,.isl 2 es]),(1,str s)],[])) (fun p=>l=p.1++p.2.1∧p.2.2=p.1.length∧∀ f∈p.1,f.nm≠nm) (fun p=>p.2.1.length) ([],l,0) ⟨rfl,rfl,by simp⟩ ?_ ?_
 · exact (zF [.icells ([str qn,AV.isl 2 es])] [] ⟨⟨_,rfl,(zp _ kcA).symm⟩,trivial⟩ trivial ⟨.refl _,.refl _,.refl _,trivial⟩)
 rintro ⟨d,r,i⟩ ⟨g1,gi,gd⟩
 dsimp only at g1 gi gd ⊢
 cases r with
 | nil =>
  have L1:=zu g1
  try simp only [List.length] at L1
  have hc:iLt i (lenA es)=false:=yW e_iLt e_lenA (by omega)
  have hp:P = -1:=by rw [hP];exact pos_miss (by rw [g1,List.append_nil];exact gd)
  subst hp
  have fz:=hc
  refine Cq ?_
  refine Aq ?_
  refine zo ?_
  refine Aq ?_
  exact fV
 | cons f r =>
  have L1:=zu g1
  try simp only [List.length] at L1
  have hc:iLt i (lenA es)=true:=yY e_iLt e_lenA (by omega)
  have hat:=zP e_atA hes g1 gi
  rw [Fld.enc_eq] at hat
  have hi2:iAdd .i64 i 1=((d++[f]).length:Int):=by rw [List.length_append];exact zJ e_iAdd gi (by omega)
  have hq:sEq (ba f.nm) s=decide (f.nm=nm):=by simp only [ee];exact heq f
  by_cases h:f.nm=nm
  · rw [decide_eq_true h] at hq
    have hp:P=i:=by rw [hP,gi];exact pos_hit g1 gd h
    generalize ba f.nm=fs at *
    generalize f.kd=fk at *
    subst hp
    have fz:=And.intro hc (And.intro hat hq)
    refine Cq ?_
    refine Cr ?_
    refine Aq ?_
    refine zl ?_
    refine Aq ?_
    exact fV
  rw [decide_eq_false h] at hq
  have gd2:∀ x∈d++[f],x.nm≠nm:=fun x hx=>by
   rcases List.mem_append.1 hx with hx | hx
   · exact gd x hx
   simp at hx;rw [hx];exact h
  generalize ba f.nm=fs at *
  generalize f.kd=fk at *
  have fz:=And.intro hc (And.intro hat hq)
  refine Cq ?_
  refine Cr ?_
  refine Aq ?_
  refine zw (d++[f],r,iAdd .i64 i 1) ⟨by simp [g1],hi2,gd2⟩ (by simp) (eS [] [])
def whF (nm:Bs):List Sch→Int→Int
 | [],_=>-1
 | f :: r,i=>if f.nm=nm then i else whF nm r (i+1)
def Sch.wh (l:List Sch) (nm:Bs):Int:=whF nm l 0
theorem whF_app {nm:Bs}:∀ (d r:List Sch) (i:Int),(∀ f∈d,f.nm≠nm)→whF nm (d++r) i=whF nm r (i+d.length)
 | [],r,i,_=>by simp
 | f :: d,r,i,h=>by
  rw [List.cons_append,whF,if_neg (h f (by simp)),whF_app d r (i+1) fun x hx=>h x (by simp [hx])]
  congr 1;simp;omega
theorem wh_hit {nm:Bs} {l d r:List Sch} {f:Sch} (h:l=d++f :: r) (hd:∀ f∈d,f.nm≠nm) (hf:f.nm=nm):Sch.wh l nm=d.length:=by
 rw [Sch.wh,h,whF_app d _ 0 hd,whF,if_pos hf];omega
theorem wh_miss {nm:Bs} {l:List Sch} (hd:∀ f∈l,f.nm≠nm):Sch.wh l nm = -1:=by
 have:=whF_app l [] 0 hd
 rw [List.append_nil] at this
 rw [Sch.wh,this,whF]
theorem P_Where (l:List Sch) (nm:Bs) (hl:l.length<1152921504606846976):PCall EE 84 [.isl 2 (mapE Sch.enc l),str (ba nm)] (int (Sch.wh l nm)):=by
 have kcl:=Sch.closedI l
 obtain ⟨P,hP⟩:∃ P,P=Sch.wh l nm:=⟨_,rfl⟩
 rw [← hP]
 have heq:∀ f:Sch,((ba f.nm).toList == (ba nm).toList)=decide (f.nm=nm):=fun f=>ba_eqB _ _
 generalize hs:ba nm=s at *
 refine zr ?_;unhygienic intros
 generalize hes:mapE Sch.enc l=es at *
 have hel:es.length=l.length:=by rw [← hes,zq]
 refine fB T84 [.t 4] ?_
 refine Aq ?_
 refine zf (ι:=List Sch × List Sch × Int) (fun p=>([(5,int p.2.2),(0,.isl 2 es),(1,str s)],[])) (fun p=>l=p.1++p.2.1∧p.2.2=p.1.length∧∀ f∈p.1,f.nm≠nm) (fun p=>p.2.1.length) ([],l,0) ⟨rfl,rfl,by simp⟩ ?_ ?_
 · exact (eS [] [])
 rintro ⟨d,r,i⟩ ⟨g1,gi,gd⟩
 dsimp only at g1 gi gd ⊢
 cases r with
 | nil =>
  have L1:=zu g1
  try simp only [List.length] at L1
  have hc:iLt i (lenA es)=false:=yW e_iLt e_lenA (by omega)
  have hp:P = -1:=by rw [hP];exact wh_miss (by rw [g1,List.append_nil];exact gd)
  subst hp
  have fz:=hc
  refine Cq ?_
  refine Aq ?_
  refine zo ?_
  refine Aq ?_
  exact fV
 | cons f r =>
  have L1:=zu g1
  try simp only [List.length] at L1
  have hc:iLt i (lenA es)=true:=yY e_iLt e_lenA (by omega)
  have hat:=zP e_atA hes g1 gi
  rw [Sch.enc_eq] at hat
  have hi2:iAdd .i64 i 1=((d++[f]).length:Int):=by rw [List.length_append];exact zJ e_iAdd gi (by omega)
  have hq:sEq (ba f.nm) s=decide (f.nm=nm):=by simp only [ee];exact heq f
  by_cases h:f.nm=nm
  · rw [decide_eq_true h] at hq
    have hp:P=i:=by rw [hP,gi];exact wh_hit g1 gd h
    generalize ba f.nm=fs at *
    generalize mapE Fld.enc f.fs=fk at *
    subst hp
    have fz:=And.intro hc (And.intro hat hq)
    refine Cq ?_
    refine Cr ?_
    refine Aq ?_
    refine zl ?_
    refine Aq ?_
    exact fV
  rw [decide_eq_false h] at hq
  have gd2:∀ x∈d++[f],x.nm≠nm:=fun x hx=>by
   rcases List.mem_append.1 hx with hx | hx
   · exact gd x hx
   simp at hx;rw [hx];exact h
  generalize ba f.nm=fs at *
  generalize mapE Fld.enc f.fs=fk at *
  have fz:=And.intro hc (And.intro hat hq)
  refine Cq ?_
  refine Cr ?_
  refine Aq ?_
  refine zw (d++[f],r,iAdd .i64 i 1) ⟨by simp [g1],hi2,gd2⟩ (by simp) (eS [] [])
theorem posF_in {nm:Bs}:∀ (d r:List Fld) (i:Int),nm∈d.map Fld.nm→tU nm (d++r) i<i+d.length
 | [],_,_,h=>by simp at h
 | f :: d,r,i,h=>by
  rw [List.cons_append,tU]
  by_cases e:f.nm=nm
  · rw [if_pos e];simp;omega
  rw [if_neg e]
  have:=posF_in d r (i+1) (by simpa [Ne.symm e] using h)
  simp only [List.length_cons];omega
theorem pos_lt {l d r:List Fld} {f:Fld} (h:l=d++f :: r):decide (Fld.pos l f.nm<(d.length:Int))=decide (f.nm∈d.map Fld.nm):=by
 apply decide_eq_decide.2
 constructor
 · intro h1
   refine Classical.byContradiction fun h2=>?_
   have:=pos_hit h (fun g hg e=>h2 (List.mem_map.2 ⟨g,hg,e⟩)) rfl
   omega
 intro h1
 have:=posF_in d (f :: r) 0 h1
 rw [Fld.pos,h];omega
theorem P_refCheck (q:Sch) (hq:q.Short):PCall EE 83 [q.enc] (int q.chk):=by
 obtain ⟨hqn,hl,hf⟩:=hq
 have kcl:=Fld.closedI q.fs
 have pp:=fun nm=>P_refPosition q nm hl
 rw [Sch.chk]
 simp only [Sch.enc_eq] at pp ⊢
 generalize q.fs=l at *
 have pn:=P_refName q.nm hqn
 clear hqn
 generalize hn:nameB q.nm=bn at *
 generalize ba q.nm=qn at *
 refine zr ?_;unhygienic intros
 generalize hes:mapE Fld.enc l=es at *
 have hel:es.length=l.length:=by rw [← hes,zq]
 have kcA:AV.closedL [str qn,.isl 2 es]=true:=by simp [AV.closedL,xb,kcl]
 have n0:bNot false=true:=by simp only [ee];rfl
 have n1:bNot true=false:=by simp only [ee];rfl
 cases bn with
 | false =>
  rw [if_pos rfl]
  refine fB T83 [.t 2] ?_
  refine Aq ?_
  refine oPA pn ?_
  have fz:=n0
  refine Cq ?_
  refine Aq ?_
  exact fV
 | true =>
 rw [if_neg (by decide)]
 by_cases h8:8<l.length
 · have k8:iLt 8 (lenA es)=true:=by simp only [ee];simp;omega
   rw [if_pos h8]
   refine fB T83 [.t 2] ?_
   refine Aq ?_
   refine oPA pn ?_
   have fz:=And.intro n1 k8
   refine Cq ?_
   refine Cr ?_
   refine Aq ?_
   exact fV
 have k8:iLt 8 (lenA es)=false:=by simp only [ee];simp;omega
 rw [if_neg h8]
 refine fB T83 [.t 2] ?_
 refine Aq ?_
 refine oPA pn ?_
 have fz:=And.intro n1 k8
 refine Cq ?_
 refine Cr ?_
 refine Aq ?_
 refine zf (ι:=List Fld × List Fld × Int) (fun p=>([(3,int p.2.2),(1,.iptr [str qn,.isl 2 es])],[])) (fun p=>l=p.1++p.2.1∧p.2.2=p.1.length∧uE [] l=uE (p.1.map Fld.nm) p.2.1) (fun p=>p.2.1.length) ([],l,0) ⟨rfl,rfl,rfl⟩ ?_ ?_
 · exact (zF [.icells ([str qn,AV.isl 2 es])] [] ⟨⟨_,rfl,(zp _ kcA).symm⟩,trivial⟩ trivial ⟨.refl _,.refl _,trivial⟩)
 rintro ⟨d,r,i⟩ ⟨g1,gi,gc⟩
 dsimp only at g1 gi gc ⊢
 cases r with
 | nil =>
  have L1:=zu g1
  try simp only [List.length] at L1
  have hc:iLt i (lenA es)=false:=yW e_iLt e_lenA (by omega)
  rw [gc,uE]
  have fz:=hc
  refine Cq ?_
  refine Aq ?_
  refine zo ?_
  refine Aq ?_
  exact fV
 | cons f r =>
  have L1:=zu g1
  try simp only [List.length] at L1
  have hc:iLt i (lenA es)=true:=yY e_iLt e_lenA (by omega)
  have hat:=zP e_atA hes g1 gi
  rw [Fld.enc_eq] at hat
  have hi2:iAdd .i64 i 1=((d++[f]).length:Int):=by rw [List.length_append];exact zJ e_iAdd gi (by omega)
  have pf:=P_refName f.nm (hf f (by rw [g1];simp))
  have pq:=pp f.nm
  have gc2:uE (d.map Fld.nm++[f.nm]) r=uE ((d++[f]).map Fld.nm) r:=by simp
  rw [uE,gc2] at gc
  rw [gc]
  clear hf pp
  have kpos:iLt (Fld.pos l f.nm) i=decide (f.nm∈d.map Fld.nm):=by simp only [ee];rw [gi];exact pos_lt g1
  have e1:((ba f.nm).toList == (ByteArray.mk #[116,105,109,101]).toList)=decide (f.nm=v8):=by
   rw [show (ByteArray.mk #[116,105,109,101])=ba v8 from ba_lit v8,ba_eqB]
  have kt:sEq (ba f.nm) ⟨#[116,105,109,101]⟩=decide (f.nm=v8):=by simp only [ee];exact e1
  have hff:u7 f.nm=(nameB f.nm && !decide (f.nm=v8)):=by rw [u7];simp
  rw [hff] at gc ⊢
  clear e1 hff gc2
  generalize nameB f.nm=bf at *
  generalize hin:decide (f.nm∈d.map Fld.nm)=bi at *
  generalize decide (f.nm=v8)=bt at *
  generalize Fld.pos l f.nm=P at *
  generalize ba f.nm=fs at *
  have kn0:f.kd=0→iNe f.kd 0=false:=fun h=>by simp only [ee];rw [h];rfl
  have kn1:f.kd=1→iNe f.kd 1=false:=fun h=>by simp only [ee];rw [h];rfl
  have kn2:f.kd=2→iNe f.kd 2=false:=fun h=>by simp only [ee];rw [h];rfl
  have km0:f.kd≠0→iNe f.kd 0=true:=fun h=>by simp only [ee];simpa using h
  have km1:f.kd≠1→iNe f.kd 1=true:=fun h=>by simp only [ee];simpa using h
  have km2:f.kd≠2→iNe f.kd 2=true:=fun h=>by simp only [ee];simpa using h
  generalize f.kd=fk at *
  cases bf with
  | false =>
   rw [if_pos (by simp)]
   have fz:=And.intro n0 (And.intro hc hat)
   refine Cq ?_
   refine Cr ?_
   refine oPA pf ?_
   refine Cq ?_
   refine oC (fun c1=>?_) fun c1=>?_
   ·
    simp [ee] at c1
    refine Aq ?_
    refine zl ?_
    refine Aq ?_
    exact fV
   simp [ee] at c1
  | true =>
  cases bt with
  | true =>
   rw [if_pos (by decide)]
   have fz:=And.intro n1 (And.intro hc (And.intro hat kt))
   refine Cq ?_
   refine Cr ?_
   refine oPA pf ?_
   refine Cq ?_
   refine oC (fun c1=>?_) fun c1=>?_
   ·
    simp [ee] at c1
    refine Aq ?_
    refine zl ?_
    refine Aq ?_
    exact fV
   simp [ee] at c1
  | false =>
  rw [if_neg (by decide)] at gc ⊢
  cases bi with
  | true =>
   rw [if_pos (of_decide_eq_true hin)]
   have fz:=And.intro n1 (And.intro hc (And.intro hat (And.intro kt kpos)))
   refine Cq ?_
   refine Cr ?_
   refine oPA pf ?_
   refine Cq ?_
   refine oC (fun c1=>?_) fun c1=>?_
   ·
    simp [ee] at c1
   simp [ee] at c1
   refine Aq ?_
   refine oPA pq ?_
   refine Cq ?_
   refine Aq ?_
   refine zl ?_
   refine Aq ?_
   exact fV
  | false =>
  rw [if_neg (of_decide_eq_false hin)] at gc ⊢
  by_cases n:fk<0∨3≤fk
  · rw [if_pos n]
    have k0:=km0 (by omega)
    have k1:=km1 (by omega)
    have k2:=km2 (by omega)
    clear kn0 kn1 kn2 km0 km1 km2
    have fz:=And.intro n1 (And.intro hc (And.intro hat (And.intro kt (And.intro kpos (And.intro k0 (And.intro k1 k2))))))
    refine Cq ?_
    refine Cr ?_
    refine oPA pf ?_
    refine Cq ?_
    refine oC (fun c1=>?_) fun c1=>?_
    ·
     simp [ee] at c1
    simp [ee] at c1
    refine Aq ?_
    refine oPA pq ?_
    refine Cq ?_
    refine Cr ?_
    refine oC (fun c2=>?_) fun c2=>?_
    ·
     simp [ee] at c2
     refine Aq ?_
     refine zl ?_
     refine Aq ?_
     exact fV
    simp [ee] at c2
  rw [if_neg n] at gc ⊢
  by_cases n0':fk=0
  · have k0:=kn0 n0'
    clear kn0 kn1 kn2 km0 km1 km2
    have fz:=And.intro n1 (And.intro hc (And.intro hat (And.intro kt (And.intro kpos k0))))
    refine Cq ?_
    refine Cr ?_
    refine oPA pf ?_
    refine Cq ?_
    refine oC (fun c1=>?_) fun c1=>?_
    ·
     simp [ee] at c1
    simp [ee] at c1
    refine Aq ?_
    refine oPA pq ?_
    refine Cq ?_
    refine Cr ?_
    refine oC (fun c2=>?_) fun c2=>?_
    ·
     simp [ee] at c2
    simp [ee] at c2
    refine Aq ?_
    refine zw (d++[f],r,iAdd .i64 i 1) ⟨by simp [g1],hi2,gc ▸ rfl⟩ (by simp) (eS [.gone] [])
  have k0:=km0 n0'
  by_cases n1':fk=1
  · have k1:=kn1 n1'
    clear kn0 kn1 kn2 km0 km1 km2
    have fz:=And.intro n1 (And.intro hc (And.intro hat (And.intro kt (And.intro kpos (And.intro k0 k1)))))
    refine Cq ?_
    refine Cr ?_
    refine oPA pf ?_
    refine Cq ?_
    refine oC (fun c1=>?_) fun c1=>?_
    ·
     simp [ee] at c1
    simp [ee] at c1
    refine Aq ?_
    refine oPA pq ?_
    refine Cq ?_
    refine Cr ?_
    refine oC (fun c2=>?_) fun c2=>?_
    ·
     simp [ee] at c2
    simp [ee] at c2
    refine Aq ?_
    refine zw (d++[f],r,iAdd .i64 i 1) ⟨by simp [g1],hi2,gc ▸ rfl⟩ (by simp) (eS [.gone] [])
  have k1:=km1 n1'
  have k2:=kn2 (by omega)
  clear kn0 kn1 kn2 km0 km1 km2
  have fz:=And.intro n1 (And.intro hc (And.intro hat (And.intro kt (And.intro kpos (And.intro k0 (And.intro k1 k2))))))
  refine Cq ?_
  refine Cr ?_
  refine oPA pf ?_
  refine Cq ?_
  refine oC (fun c1=>?_) fun c1=>?_
  ·
   simp [ee] at c1
  simp [ee] at c1
  refine Aq ?_
  refine oPA pq ?_
  refine Cq ?_
  refine Cr ?_
  refine oC (fun c2=>?_) fun c2=>?_
  ·
   simp [ee] at c2
  simp [ee] at c2
  refine Aq ?_
  refine zw (d++[f],r,iAdd .i64 i 1) ⟨by simp [g1],hi2,gc ▸ rfl⟩ (by simp) (eS [.gone] [])
theorem P_CheckAll (l:List Sch) (hl:l.length<1152921504606846976) (hs:∀ q∈l,q.Short):PCall EE 73 [.isl 2 (mapE Sch.enc l)] (int (z7 l)):=by
 have kcl:=Sch.closedI l
 rw [z7]
 refine zr ?_;unhygienic intros
 generalize hes:mapE Sch.enc l=es at *
 have hel:es.length=l.length:=by rw [← hes,zq]
 by_cases h8:16<l.length
 · have k8:iLt 16 (lenA es)=true:=by simp only [ee];simp;omega
   rw [if_pos h8]
   refine fB T73 [.t 2] ?_
   have fz:=k8
   refine Cq ?_
   refine Aq ?_
   exact fV
 have k8:iLt 16 (lenA es)=false:=by simp only [ee];simp;omega
 rw [if_neg h8]
 refine fB T73 [.t 2] ?_
 have fz:=k8
 refine Cq ?_
 refine Aq ?_
 refine zf (ι:=List Sch × List Sch × Int × List (AV × AV)) (fun p=>([(13,int p.2.2.1),(12,int (lenA es)),(11,.isl 2 es),(3,.amap 0)],[.amap p.2.2.2])) (fun p=>l=p.1++p.2.1∧p.2.2.1=p.1.length∧p.2.2.2=ents (p.1.map Sch.nm)∧uL [] l=uL (p.1.map Sch.nm) p.2.1) (fun p=>p.2.1.length) ([],l,0,[]) ⟨rfl,rfl,rfl,rfl⟩ ?_ ?_
 · have kcM:y5 []=true:=rfl
   exact (eS [.to 0] [some 0])
 rintro ⟨d,r,i,m⟩ ⟨g1,gi,gm,gc⟩
 dsimp only at g1 gi gm gc ⊢
 cases r with
 | nil =>
  have L1:=zu g1
  try simp only [List.length] at L1
  have hc:iLt i (lenA es)=false:=yW e_iLt e_lenA (by omega)
  rw [gc,uL]
  have fz:=hc
  refine Cq ?_
  refine Aq ?_
  refine zo ?_
  refine Aq ?_
  exact fV
 | cons f r =>
  have L1:=zu g1
  try simp only [List.length] at L1
  have hc:iLt i (lenA es)=true:=yY e_iLt e_lenA (by omega)
  have hat:=zP e_atA hes g1 gi
  have hi2:iAdd .i64 i 1=((d++[f]).length:Int):=by rw [List.length_append];exact zJ e_iAdd gi (by omega)
  have pf:=P_Check f (hs f (by rw [g1];simp))
  have gc2:uL (d.map Sch.nm++[f.nm]) r=uL ((d++[f]).map Sch.nm) r:=by simp
  rw [uL,gc2] at gc
  rw [gc]
  clear hs
  rw [Sch.enc_eq] at hat pf
  have kcf:=Fld.closedI f.fs
  have kokL:mOkL true m (str (ba f.nm))=true:=by rw [gm];exact ut _ _
  have kok:mOk true m (str (ba f.nm))=true:=by simp only [ee];rw [gm];exact ut _ _
  have kget:mGet true m (str (ba f.nm)) (bool false)=bool (decide (f.nm∈d.map Sch.nm)):=by simp only [ee];rw [gm];exact uh _ _
  have kput:f.nm∉d.map Sch.nm→mPut true m (str (ba f.nm)) (bool true)=ents ((d++[f]).map Sch.nm):=fun h=>by simp only [ee];rw [gm,ui _ _ h];simp
  have kk1:f.chk≠0→iNe f.chk 0=true:=fun h=>by simp only [ee];simpa using h
  have kk2:¬ f.chk≠0→iNe f.chk 0=false:=fun h=>by simp only [ee];simpa using h
  clear gc2
  generalize mapE Fld.enc f.fs=fe at *
  generalize f.chk=fc at *
  generalize hin:decide (f.nm∈d.map Sch.nm)=bi at *
  generalize ba f.nm=fs at *
  have kcA:AV.closedL [str fs,.isl 2 fe]=true:=by simp [AV.closedL,xb,kcf]
  by_cases n0:fc≠0
  · have k0:=kk1 n0
    rw [if_pos n0]
    clear kk1 kk2 kput kokL kget kok gc
    have fz:=And.intro hc (And.intro hat k0)
    refine Cq ?_
    refine Cr ?_
    refine oPA pf ?_
    refine Cq ?_
    refine Aq ?_
    refine zl ?_
    refine Aq ?_
    exact fV
  have k0:=kk2 n0
  rw [if_neg n0] at gc ⊢
  clear kk1 kk2
  cases bi with
  | true =>
   rw [if_pos (of_decide_eq_true hin)]
   clear kput kokL gc
   have fz:=And.intro hc (And.intro hat (And.intro k0 (And.intro kget kok)))
   refine Cq ?_
   refine Cr ?_
   refine oPA pf ?_
   refine Cq ?_
   refine Cr ?_
   refine Aq ?_
   refine zl ?_
   refine Aq ?_
   exact fV
  | false =>
  rw [if_neg (of_decide_eq_false hin)] at gc ⊢
  have kp:=kput (of_decide_eq_false hin)
  clear kput
  have kcM:y5 (mPut true m (str fs) (bool true))=true:=by rw [kp];exact uY _
  have fz:=And.intro hc (And.intro hat (And.intro k0 (And.intro kget kok)))
  refine Cq ?_
  refine Cr ?_
  refine oPA pf ?_
  refine Cq ?_
  refine Cr ?_
  refine go rfl hX 60 (by conv=>lhs;cbv) ?_ ?_
  · simp only [ee];simp only [kokL];trivial
  refine zw (d++[f],r,iAdd .i64 i 1,mPut true m (str fs) (bool true)) ⟨by simp [g1],hi2,kp,gc ▸ rfl⟩ (by simp) (eS [.to 0,.gone] [some 0])
theorem whF_in {nm:Bs}:∀ (d r:List Sch) (i:Int),nm∈d.map Sch.nm→whF nm (d++r) i<i+d.length
 | [],_,_,h=>by simp at h
 | f :: d,r,i,h=>by
  rw [List.cons_append,whF]
  by_cases e:f.nm=nm
  · rw [if_pos e];simp;omega
  rw [if_neg e]
  have:=whF_in d r (i+1) (by simpa [Ne.symm e] using h)
  simp only [List.length_cons];omega
theorem wh_lt {l d r:List Sch} {f:Sch} (h:l=d++f :: r):decide (Sch.wh l f.nm<(d.length:Int))=decide (f.nm∈d.map Sch.nm):=by
 apply decide_eq_decide.2
 constructor
 · intro h1
   refine Classical.byContradiction fun h2=>?_
   have:=wh_hit h (fun g hg e=>h2 (List.mem_map.2 ⟨g,hg,e⟩)) rfl
   omega
 intro h1
 have:=whF_in d (f :: r) 0 h1
 rw [Sch.wh,h];omega
theorem P_refCheckAll (l:List Sch) (hl:l.length<1152921504606846976) (hs:∀ q∈l,q.Short):PCall EE 30 [.isl 2 (mapE Sch.enc l)] (int (z7 l)):=by
 have kcl:=Sch.closedI l
 have pp:=fun nm=>P_Where l nm hl
 rw [z7]
 refine zr ?_;unhygienic intros
 generalize hes:mapE Sch.enc l=es at *
 have hel:es.length=l.length:=by rw [← hes,zq]
 by_cases h8:16<l.length
 · have k8:iLt 16 (lenA es)=true:=by simp only [ee];simp;omega
   rw [if_pos h8]
   clear pp
   refine fB T30 [.t 2] ?_
   have fz:=k8
   refine Cq ?_
   refine Aq ?_
   exact fV
 have k8:iLt 16 (lenA es)=false:=by simp only [ee];simp;omega
 rw [if_neg h8]
 refine fB T30 [.t 2] ?_
 have fz:=k8
 refine Cq ?_
 refine Aq ?_
 refine zf (ι:=List Sch × List Sch × Int) (fun p=>([(3,int p.2.2),(0,.isl 2 es)],[])) (fun p=>l=p.1++p.2.1∧p.2.2=p.1.length∧uL [] l=uL (p.1.map Sch.nm) p.2.1) (fun p=>p.2.1.length) ([],l,0) ⟨rfl,rfl,rfl⟩ ?_ ?_
 · exact (eS [] [])
 rintro ⟨d,r,i⟩ ⟨g1,gi,gc⟩
 dsimp only at g1 gi gc ⊢
 cases r with
 | nil =>
  have L1:=zu g1
  try simp only [List.length] at L1
  have hc:iLt i (lenA es)=false:=yW e_iLt e_lenA (by omega)
  rw [gc,uL]
  have fz:=hc
  refine Cq ?_
  refine Aq ?_
  refine zo ?_
  refine Aq ?_
  exact fV
 | cons f r =>
  have L1:=zu g1
  try simp only [List.length] at L1
  have hc:iLt i (lenA es)=true:=yY e_iLt e_lenA (by omega)
  have hat:=zP e_atA hes g1 gi
  have hi2:iAdd .i64 i 1=((d++[f]).length:Int):=by rw [List.length_append];exact zJ e_iAdd gi (by omega)
  have pf:=P_refCheck f (hs f (by rw [g1];simp))
  have pq:=pp f.nm
  have gc2:uL (d.map Sch.nm++[f.nm]) r=uL ((d++[f]).map Sch.nm) r:=by simp
  rw [uL,gc2] at gc
  rw [gc]
  clear hs pp
  rw [Sch.enc_eq] at hat pf
  have kcf:=Fld.closedI f.fs
  have kpos:iLt (Sch.wh l f.nm) i=decide (f.nm∈d.map Sch.nm):=by simp only [ee];rw [gi];exact wh_lt g1
  have kk1:f.chk≠0→iNe f.chk 0=true:=fun h=>by simp only [ee];simpa using h
  have kk2:¬ f.chk≠0→iNe f.chk 0=false:=fun h=>by simp only [ee];simpa using h
  clear gc2
  generalize mapE Fld.enc f.fs=fe at *
  generalize f.chk=fc at *
  generalize hin:decide (f.nm∈d.map Sch.nm)=bi at *
  generalize Sch.wh l f.nm=P at *
  generalize ba f.nm=fs at *
  have kcA:AV.closedL [str fs,.isl 2 fe]=true:=by simp [AV.closedL,xb,kcf]
  by_cases n0:fc≠0
  · have k0:=kk1 n0
    rw [if_pos n0]
    clear kk1 kk2 kpos gc
    have fz:=And.intro hc (And.intro hat k0)
    refine Cq ?_
    refine Cr ?_
    refine oPA pf ?_
    refine Cq ?_
    refine Aq ?_
    refine zl ?_
    refine Aq ?_
    exact fV
  have k0:=kk2 n0
  rw [if_neg n0] at gc ⊢
  clear kk1 kk2
  cases bi with
  | true =>
   rw [if_pos (of_decide_eq_true hin)]
   clear gc
   have fz:=And.intro hc (And.intro hat (And.intro k0 kpos))
   refine Cq ?_
   refine Cr ?_
   refine oPA pf ?_
   refine Cq ?_
   refine Cr ?_
   refine oPA pq ?_
   refine Cq ?_
   refine Aq ?_
   refine zl ?_
   refine Aq ?_
   exact fV
  | false =>
  rw [if_neg (of_decide_eq_false hin)] at gc ⊢
  have fz:=And.intro hc (And.intro hat (And.intro k0 kpos))
  refine Cq ?_
  refine Cr ?_
  refine oPA pf ?_
  refine Cq ?_
  refine Cr ?_
  refine oPA pq ?_
  refine Cq ?_
  refine Aq ?_
  refine zw (d++[f],r,iAdd .i64 i 1) ⟨by simp [g1],hi2,gc ▸ rfl⟩ (by simp) (eS [] [])
theorem P_pattern_Size : ∀ p:Pat,p.Sm→PCall EE 26 [p.enc] (.tup [int p.cnt,int p.dep]):=by
 refine Pat.ind ?_
 intro o a t v s n c ih hs
 obtain ⟨co,ca,cv,cf,ck,cx⟩:=c
 have hlen:=hs.len
 have hih:∀ q∈a,PCall EE 26 [q.enc] (.tup [int q.cnt,int q.dep]):=fun q hq=>ih q hq (hs.arg hq)
 have hcl:=Pat.closedI a
 have hcnt:=hs.1
 simp only [Pat.cnt] at hcnt
 have hde:=fun q:Pat=>Pat.dep_le q
 simp only [Pat.cnt,Pat.dep]
 rw [Pat.enc_mk]
 refine zr ?_;unhygienic intros
 generalize hes:mapE Pat.enc a=es at *
 have hel:es.length=a.length:=by rw [← hes,zq]
 generalize mapE Ex.enc ca=ec
 refine fB T26 [.t 2,.t 3] ?_
 refine Aq ?_
 refine zf (ι:=List Pat × List Pat × Int × Int × Int) (fun p=>([(5,int p.2.2.2.2),(4,int p.2.2.2.1),(13,int p.2.2.1),(12,int (lenA es)),(11,.isl 14 es)],[])) (fun p=>a=p.1++p.2.1∧p.2.2.1=p.1.length∧p.2.2.2.1=1+Pat.cntL p.1∧Pat.depL 0 a=Pat.depL p.2.2.2.2.toNat p.2.1∧0≤p.2.2.2.2∧p.2.2.2.2≤1048576) (fun p=>p.2.1.length) ([],a,0,1,0) ⟨rfl,rfl,rfl,rfl,by simp⟩ ?_ ?_
 · exact (eS [.gone] [])
 rintro ⟨d,r,i,nn,dd⟩ ⟨g1,gi,gn,gd,gb⟩
 dsimp only at g1 gi gn gd gb ⊢
 cases r with
 | nil =>
  have L1:=zu g1
  try simp only [List.length] at L1
  have hc:iLt i (lenA es)=false:=yW e_iLt e_lenA (by omega)
  rw [List.append_nil] at g1
  rw [gd,Pat.depL,g1]
  have ha1:iAdd .i64 dd 1=((dd.toNat+1:Nat):Int):=by rw [ww e_iAdd (by omega) (by omega)];omega
  have hn:nn=((1+Pat.cntL d:Nat):Int):=by omega
  have fz:=hc
  refine Cq ?_
  refine Aq ?_
  refine zo ?_
  refine Aq ?_
  refine zR rfl rfl ?_
  exact ⟨[],trivial,.tup' ⟨.of (congrArg int hn),.of (congrArg int ha1),trivial⟩⟩
 | cons q r =>
  have L1:=zu g1
  try simp only [List.length] at L1
  have hc:iLt i (lenA es)=true:=yY e_iLt e_lenA (by omega)
  have hat:=zP e_atA hes g1 gi
  have hq:=hih q (by rw [g1];simp)
  have hqc:=Pat.closed q
  have hqd:=hde q
  rw [g1,Pat.cntL_append,Pat.cntL] at hcnt
  obtain ⟨qO,qA,qT,qV,qS,qN,qCo,qCa,qCv,qCf,qCk,qXk,qXn,qXt,hx⟩:=Pat.form q
  rw [hx] at hq hat hqc
  generalize hqn:(q.cnt:Int)=qn at hq
  generalize hqp:(q.dep:Int)=qp at hq
  have hn2:iAdd .i64 nn qn=1+Pat.cntL (d++[q]):=by rw [Pat.cntL_append,Pat.cntL,Pat.cntL,ww e_iAdd (by omega) (by omega)];omega
  have hi2:iAdd .i64 i 1=((d++[q]).length:Int):=by rw [List.length_append];exact zJ e_iAdd gi (by omega)
  have hd2:iMax dd qp=((max dd.toNat q.dep:Nat):Int):=by simp only [ee];split<;>omega
  have fz:=And.intro hc hat
  refine Cq ?_
  refine Cr ?_
  refine oPA hq ?_
  refine Aq ?_
  refine zw (d++[q],r,iAdd .i64 i 1,iAdd .i64 nn qn,iMax dd qp) ⟨by simp [g1],hi2,hn2,by rw [gd,hd2,Pat.depL];rfl,by show 0≤iMax dd qp;omega,by show iMax dd qp≤1048576;omega⟩ (by simp) (eS [.gone] [])
mutual
def Ex.tot (lim:Nat):Ex→Nat
 | .mk _ a _ _ _ _=>Ex.totL lim 1 a
def Ex.totL (lim:Nat):Nat→List Ex→Nat
 | n,[]=>n
 | n,e :: r=>if n≤lim then Ex.totL lim (n+e.tot lim) r else n
end
theorem Ex.totL_le {lim:Nat} {l:List Ex} (h:∀ e∈l,e.tot lim≤e.cnt):∀ n,Ex.totL lim n l≤n+Ex.cntL l:=by
 induction l with
 | nil=>intro n;simp [Ex.totL]
 | cons e r ih =>
  intro n
  have h1:=h e (by simp)
  have h2:=ih (fun e he=>h e (by simp [he])) (n+e.tot lim)
  simp only [Ex.totL,Ex.cntL];split<;>omega
theorem Ex.tot_le (lim:Nat):∀ e:Ex,e.tot lim≤e.cnt:=Ex.ind fun o a v f k x h=>by
 have:=Ex.totL_le h 1
 simp only [Ex.tot,Ex.cnt];omega
theorem Ex.totL_eq {lim:Nat} {l:List Ex} (h:∀ e∈l,e.cnt≤lim→e.tot lim=e.cnt):∀ n,n+Ex.cntL l≤lim→Ex.totL lim n l=n+Ex.cntL l:=by
 induction l with
 | nil=>intro n _;simp [Ex.totL,Ex.cntL]
 | cons e r ih =>
  intro n hn
  simp only [Ex.cntL] at hn ⊢
  have h1:=h e (by simp) (by omega)
  rw [Ex.totL,if_pos (by omega),ih (fun e he=>h e (by simp [he])) _ (by omega)];omega
theorem Ex.tot_eq {lim:Nat}:∀ e:Ex,e.cnt≤lim→e.tot lim=e.cnt:=Ex.ind fun o a v f k x h hl=>by
 simp only [Ex.tot,Ex.cnt] at hl ⊢
 exact Ex.totL_eq h 1 hl
theorem Ex.totL_gt {lim:Nat} {l:List Ex} (h:∀ e∈l,lim<e.cnt→lim<e.tot lim):∀ n,lim<n+Ex.cntL l→lim<Ex.totL lim n l:=by
 induction l with
 | nil=>intro n hn;simpa [Ex.totL,Ex.cntL] using hn
 | cons e r ih =>
  intro n hn
  simp only [Ex.cntL] at hn
  rw [Ex.totL]
  split
  · refine ih (fun e he=>h e (by simp [he])) _ ?_
    by_cases hc:e.cnt≤lim
    · rw [Ex.tot_eq e hc];omega
    have:=h e (by simp) (by omega);omega
  omega
theorem Ex.tot_gt {lim:Nat}:∀ e:Ex,lim<e.cnt→lim<e.tot lim:=Ex.ind fun o a v f k x h hl=>by
 simp only [Ex.tot,Ex.cnt] at hl ⊢
 exact Ex.totL_gt h 1 hl
theorem Ex.tot_iff (e:Ex) (lim:Nat):e.tot lim≤lim↔e.cnt≤lim:=by
 by_cases h:e.cnt≤lim
 · rw [Ex.tot_eq e h]
 have:=Ex.tot_gt (lim:=lim) e (by omega);omega
theorem P_ref08_Count (lim:Nat) (hlim:lim≤1099511627776):∀ p:Ex,p.Sm→PCall EE 41 [p.enc,int lim] (int (p.tot lim)):=by
 generalize hli:(lim:Int)=li
 refine Ex.ind ?_
 intro o a v f k x ih hs
 obtain ⟨xk,xn,xt⟩:=x
 have hlen:=hs.len
 have hih:∀ q∈a,PCall EE 41 [q.enc,int li] (int (q.tot lim)):=fun q hq=>ih q hq (hs.arg hq)
 have hcl:=Ex.closedI a
 have hcnt:Ex.cntL a≤1048576:=by unfold Ex.Sm at hs;simp only [Ex.cnt] at hs;omega
 have hde:=fun q:Ex=>Ex.tot_le lim q
 simp only [Ex.tot]
 obtain ⟨R,hR⟩:∃ R,R=Ex.totL lim 1 a:=⟨_,rfl⟩
 rw [← hR,Ex.enc_mk]
 refine zr ?_;unhygienic intros
 generalize hes:mapE Ex.enc a=es at *
 have hel:es.length=a.length:=by rw [← hes,zq]
 refine fB T41 [.t 4] ?_
 refine Aq ?_
 refine zf (ι:=List Ex × List Ex × Int × Int) (fun p=>([(5,int p.2.2.2),(6,int p.2.2.1),(1,int li),(2,.ptr 0 0)],[.cells [int o,.isl 8 es,int v,int f,int k,int xk,int xn,str xt]])) (fun p=>a=p.1++p.2.1∧p.2.2.1=p.1.length∧p.2.2.2≤1+Ex.cntL p.1∧0≤p.2.2.2∧R=Ex.totL lim p.2.2.2.toNat p.2.1) (fun p=>p.2.1.length) ([],a,0,1) ⟨rfl,rfl,by simp [Ex.cntL],by simp,hR⟩ ?_ ?_
 · exact (eS [.to 0] [some 0])
 rintro ⟨d,r,i,nn⟩ ⟨g1,gi,gn,gp,gt⟩
 dsimp only at g1 gi gn gp gt ⊢
 have hnt:(nn.toNat:Int)=nn:=Int.toNat_of_nonneg gp
 cases r with
 | nil =>
  have L1:=zu g1
  try simp only [List.length] at L1
  have hc:iLt i (lenA es)=false:=yW e_iLt e_lenA (by omega)
  rw [Ex.totL] at gt
  have hv:nn=(R:Int):=by omega
  have hb:∀ b,bAnd false b=false:=by simp [ee]
  have fz:=And.intro hc hb
  refine Cq ?_
  refine Aq ?_
  refine zo ?_
  refine Aq ?_
  exact fI (h:=hv)
 | cons q r =>
  have L1:=zu g1
  try simp only [List.length] at L1
  have hc:iLt i (lenA es)=true:=yY e_iLt e_lenA (by omega)
  have hat:=zP e_atA hes g1 gi
  have hq:=hih q (by rw [g1];simp)
  have hqc:=Ex.closed q
  have hqd:=hde q
  rw [g1,Ex.cntL_append,Ex.cntL] at hcnt
  obtain ⟨qO,qA,qV,qF,qK,qXk,qXn,qXt,hx⟩:=Ex.form q
  rw [hx] at hq hat hqc
  have hb:∀ b,bAnd true b=b:=by simp [ee]
  rw [Ex.totL] at gt
  by_cases hle:nn≤li
  · have h2:iLe nn li=true:=by simp [ee];omega
    rw [if_pos (by omega)] at gt
    generalize hqn:(q.tot lim:Int)=qn at hq
    have hn2:iAdd .i64 nn qn=nn+qn:=ww e_iAdd (by omega) (by omega)
    have hi2:iAdd .i64 i 1=((d++[q]).length:Int):=by rw [List.length_append];exact zJ e_iAdd gi (by omega)
    have hn4:iAdd .i64 nn qn≤1+Ex.cntL (d++[q])∧0≤iAdd .i64 nn qn:=by rw [Ex.cntL_append,Ex.cntL,Ex.cntL,hn2];omega
    have hn3:(iAdd .i64 nn qn).toNat=nn.toNat+q.tot lim:=by omega
    have fz:=And.intro hc (And.intro hat (And.intro hb h2))
    refine Cq ?_
    refine Cr ?_
    refine oPA hq ?_
    refine Aq ?_
    refine zw (d++[q],r,iAdd .i64 i 1,iAdd .i64 nn qn) ⟨by simp [g1],hi2,hn4.1,hn4.2,hn3 ▸ gt⟩ (by simp) (eS [.to 0] [some 0])
  have h2:iLe nn li=false:=by simp [ee];omega
  rw [if_neg (by omega)] at gt
  have hv:nn=(R:Int):=by omega
  have fz:=And.intro hc (And.intro hat (And.intro hb h2))
  refine Cq ?_
  refine Aq ?_
  refine zo ?_
  refine Aq ?_
  exact fI (h:=hv)
theorem P_ref08_Depth : ∀ p:Ex,p.Sm→PCall EE 42 [p.enc] (int p.dep):=by
 refine Ex.ind ?_
 intro o a v f k x ih hs
 obtain ⟨xk,xn,xt⟩:=x
 have hlen:=hs.len
 have hih:∀ q∈a,PCall EE 42 [q.enc] (int q.dep):=fun q hq=>ih q hq (hs.arg hq)
 have hcl:=Ex.closedI a
 have hcnt:Ex.cntL a≤1048576:=by unfold Ex.Sm at hs;simp only [Ex.cnt] at hs;omega
 have hde:=fun q:Ex=>Ex.dep_le q
 simp only [Ex.dep]
 obtain ⟨R,hR⟩:∃ R,R=Ex.depL 0 a:=⟨_,rfl⟩
 rw [← hR,Ex.enc_mk]
 refine zr ?_;unhygienic intros
 generalize hes:mapE Ex.enc a=es at *
 have hel:es.length=a.length:=by rw [← hes,zq]
 refine fB T42 [.t 2] ?_
 refine Aq ?_
 refine zf (ι:=List Ex × List Ex × Int × Int) (fun p=>([(3,int p.2.2.2),(4,int p.2.2.1),(1,.ptr 0 0)],[.cells [int o,.isl 8 es,int v,int f,int k,int xk,int xn,str xt]])) (fun p=>a=p.1++p.2.1∧p.2.2.1=p.1.length∧p.2.2.2≤1048576∧0≤p.2.2.2∧R=Ex.depL p.2.2.2.toNat p.2.1) (fun p=>p.2.1.length) ([],a,0,0) ⟨rfl,rfl,by simp,by simp,hR⟩ ?_ ?_
 · exact (eS [.to 0] [some 0])
 rintro ⟨d,r,i,dd⟩ ⟨g1,gi,gn,gp,gt⟩
 dsimp only at g1 gi gn gp gt ⊢
 cases r with
 | nil =>
  have L1:=zu g1
  try simp only [List.length] at L1
  have hc:iLt i (lenA es)=false:=yW e_iLt e_lenA (by omega)
  rw [Ex.depL] at gt
  have ha1:iAdd .i64 dd 1=((R+1:Nat):Int):=by rw [ww e_iAdd (by omega) (by omega)];omega
  have fz:=hc
  refine Cq ?_
  refine Aq ?_
  refine zo ?_
  refine Aq ?_
  exact fI (h:=ha1)
 | cons q r =>
  have L1:=zu g1
  try simp only [List.length] at L1
  have hc:iLt i (lenA es)=true:=yY e_iLt e_lenA (by omega)
  have hat:=zP e_atA hes g1 gi
  have hq:=hih q (by rw [g1];simp)
  have hqc:=Ex.closed q
  have hqd:=hde q
  rw [g1,Ex.cntL_append,Ex.cntL] at hcnt
  obtain ⟨qO,qA,qV,qF,qK,qXk,qXn,qXt,hx⟩:=Ex.form q
  rw [hx] at hq hat hqc
  rw [Ex.depL] at gt
  generalize hqn:(q.dep:Int)=qn at hq
  have hd2:iMax dd qn=((max dd.toNat q.dep:Nat):Int):=by simp only [ee];split<;>omega
  have hd3:(iMax dd qn).toNat=max dd.toNat q.dep:=by omega
  have hi2:iAdd .i64 i 1=((d++[q]).length:Int):=by rw [List.length_append];exact zJ e_iAdd gi (by omega)
  have fz:=And.intro hc hat
  refine Cq ?_
  refine Cr ?_
  refine oPA hq ?_
  refine Aq ?_
  refine zw (d++[q],r,iAdd .i64 i 1,iMax dd qn) ⟨by simp [g1],hi2,by show iMax dd qn≤1048576;omega,by show 0≤iMax dd qn;omega,hd3 ▸ gt⟩ (by simp) (eS [.to 0] [some 0])
theorem P_ref09_Depth : ∀ p:Pat,p.Sm→PCall EE 87 [p.enc] (int p.dep):=by
 refine Pat.ind ?_
 intro o a t v s n c ih hs
 obtain ⟨co,ca,cv,cf,ck,xk,xn,xt⟩:=c
 have hlen:=hs.len
 have hih:∀ q∈a,PCall EE 87 [q.enc] (int q.dep):=fun q hq=>ih q hq (hs.arg hq)
 have hcl:=Pat.closedI a
 have hce:=Ex.closedI ca
 have hcnt:Pat.cntL a≤1048576:=by have hs:=hs.1;simp only [Pat.cnt] at hs;omega
 have hde:=fun q:Pat=>Pat.dep_le q
 simp only [Pat.dep]
 obtain ⟨R,hR⟩:∃ R,R=Pat.depL 0 a:=⟨_,rfl⟩
 rw [← hR,Pat.enc_mk]
 refine zr ?_;unhygienic intros
 generalize hes:mapE Pat.enc a=es at *
 generalize mapE Ex.enc ca=ec at *
 have hel:es.length=a.length:=by rw [← hes,zq]
 refine fB T87 [.t 2] ?_
 refine Aq ?_
 refine zf (ι:=List Pat × List Pat × Int × Int) (fun p=>([(3,int p.2.2.2),(4,int p.2.2.1),(1,.ptr 0 0)],[.cells [int o,.isl 14 es,int t,int v,int s,int n,int co,.isl 8 ec,int cv,int cf,int ck,int xk,int xn,str xt]])) (fun p=>a=p.1++p.2.1∧p.2.2.1=p.1.length∧p.2.2.2≤1048576∧0≤p.2.2.2∧R=Pat.depL p.2.2.2.toNat p.2.1) (fun p=>p.2.1.length) ([],a,0,0) ⟨rfl,rfl,by simp,by simp,hR⟩ ?_ ?_
 · exact (eS [.to 0] [some 0])
 rintro ⟨d,r,i,dd⟩ ⟨g1,gi,gn,gp,gt⟩
 dsimp only at g1 gi gn gp gt ⊢
 cases r with
 | nil =>
  have L1:=zu g1
  try simp only [List.length] at L1
  have hc:iLt i (lenA es)=false:=yW e_iLt e_lenA (by omega)
  rw [Pat.depL] at gt
  have ha1:iAdd .i64 dd 1=((R+1:Nat):Int):=by rw [ww e_iAdd (by omega) (by omega)];omega
  have fz:=hc
  refine Cq ?_
  refine Aq ?_
  refine zo ?_
  refine Aq ?_
  exact fI (h:=ha1)
 | cons q r =>
  have L1:=zu g1
  try simp only [List.length] at L1
  have hc:iLt i (lenA es)=true:=yY e_iLt e_lenA (by omega)
  have hat:=zP e_atA hes g1 gi
  have hq:=hih q (by rw [g1];simp)
  have hqc:=Pat.closed q
  have hqd:=hde q
  rw [g1,Pat.cntL_append,Pat.cntL] at hcnt
  obtain ⟨qO,qA,qT,qV,qS,qN,qCo,qCa,qCv,qCf,qCk,qXk,qXn,qXt,hx⟩:=Pat.form q
  rw [hx] at hq hat hqc
  rw [Pat.depL] at gt
  generalize hqn:(q.dep:Int)=qn at hq
  have hd2:iMax dd qn=((max dd.toNat q.dep:Nat):Int):=by simp only [ee];split<;>omega
  have hd3:(iMax dd qn).toNat=max dd.toNat q.dep:=by omega
  have hi2:iAdd .i64 i 1=((d++[q]).length:Int):=by rw [List.length_append];exact zJ e_iAdd gi (by omega)
  have fz:=And.intro hc hat
  refine Cq ?_
  refine Cr ?_
  refine oPA hq ?_
  refine Aq ?_
  refine zw (d++[q],r,iAdd .i64 i 1,iMax dd qn) ⟨by simp [g1],hi2,by show iMax dd qn≤1048576;omega,by show 0≤iMax dd qn;omega,hd3 ▸ gt⟩ (by simp) (eS [.to 0] [some 0])
theorem P_Index (l:List Int) (v:Int) (hl:l.length<1048577):∃ j:Int,(0≤j↔v∈l)∧PCall EE 166 [.isl 1 (mapE int l),int v] (int j):=by
 obtain ⟨j,hj1,hj2⟩:∃ j:Int,(v∉l→j = -1)∧(∀ d r,l=d++v :: r→v∉d→j=d.length):=by
  by_cases h:v∈l
  · obtain ⟨d,r,rfl,hd⟩:=List.eq_append_cons_of_mem h
    refine ⟨d.length,fun hn=>absurd h hn,fun d2 r2 e hd2=>?_⟩
    have:∀ (d d2:List Int) (r r2:List Int),d++v :: r=d2++v :: r2→v∉d→v∉d2→d.length=d2.length:=by
     intro d
     induction d with
     | nil =>
      intro d2 r r2 e _ h2
      cases d2 with
      | nil=>rfl
      | cons x y=>simp at e;simp [e.1] at h2
     | cons x y ih =>
      intro d2 r r2 e h1 h2
      cases d2 with
      | nil=>simp at e;simp [e.1] at h1
      | cons x2 y2 =>
       simp at e h1 h2
       simp [ih y2 r r2 e.2 h1.2 h2.2]
    rw [this d d2 r r2 e hd hd2]
  exact ⟨-1,fun _=>rfl,fun d r e=>absurd (by rw [e];simp) h⟩
 refine ⟨j,?_,?_⟩
 · constructor
   · intro h;exact Classical.byContradiction fun hn=>by have:=hj1 hn;omega
   intro h
   obtain ⟨d,r,e,hd⟩:=List.eq_append_cons_of_mem h
   have:=hj2 d r e hd;omega
 have hcl:=zx l
 refine zr ?_;unhygienic intros
 generalize hes:mapE int l=es at *
 have hel:es.length=l.length:=by rw [← hes,zq]
 refine fB T166 [.t 4] ?_
 refine Aq ?_
 refine zf (ι:=List Int × List Int × Int) (fun p=>([(8,int p.2.2),(7,int (lenA es)),(0,.isl 1 es),(1,int v)],[])) (fun p=>l=p.1++p.2.1∧p.2.2=p.1.length∧v∉p.1) (fun p=>p.2.1.length) ([],l,0) ⟨rfl,rfl,by simp⟩ ?_ ?_
 · exact (eS [] [])
 rintro ⟨d,r,i⟩ ⟨g1,gi,gv⟩
 dsimp only at g1 gi gv ⊢
 cases r with
 | nil =>
  have L1:=zu g1
  try simp only [List.length] at L1
  have hc:iLt i (lenA es)=false:=yW e_iLt e_lenA (by omega)
  rw [List.append_nil] at g1
  have hj:j = -1:=hj1 (by rw [g1];exact gv)
  have fz:=hc
  refine Cq ?_
  refine Aq ?_
  refine zo ?_
  refine Aq ?_
  exact fI (h:=hj.symm)
 | cons q r =>
  have L1:=zu g1
  try simp only [List.length] at L1
  have hc:iLt i (lenA es)=true:=yY e_iLt e_lenA (by omega)
  have hat:=zP e_atA hes g1 gi
  have hi2:iAdd .i64 i 1=((d++[q]).length:Int):=by rw [List.length_append];exact zJ e_iAdd gi (by omega)
  by_cases hq:v=q
  · have k1:iEq v q=true:=by simp only [ee];simpa using hq
    have hj:i=j:=by rw [hj2 d r (by rw [g1,hq]) gv];exact gi
    have fz:=And.intro hc (And.intro hat k1)
    refine Cq ?_
    refine Cr ?_
    refine Aq ?_
    refine zl ?_
    refine Aq ?_
    exact fI (h:=hj)
  have k1:iEq v q=false:=by simp only [ee];simpa using hq
  have gv2:v∉d++[q]:=by simp [gv,hq]
  have fz:=And.intro hc (And.intro hat k1)
  refine Cq ?_
  refine Cr ?_
  refine Aq ?_
  refine zw (d++[q],r,iAdd .i64 i 1) ⟨by simp [g1],hi2,gv2⟩ (by simp) (eS [] [])
theorem P_Contains (l:List Int) (v:Int) (hl:l.length<1048577):PCall EE 141 [.isl 1 (mapE int l),int v] (bool (decide (v∈l))):=by
 obtain ⟨j,hj,h1⟩:=P_Index l v hl
 have hcl:=zx l
 obtain ⟨R,hR⟩:∃ R,R=decide (v∈l):=⟨_,rfl⟩
 rw [← hR]
 refine zr ?_;unhygienic intros
 generalize mapE int l=es at *
 refine fB T141 [.t 4] ?_
 have hRe:iLe 0 j=R:=by simp only [ee];rw [hR];simp [hj]
 refine Aq ?_
 refine oPA h1 ?_
 refine Aq ?_
 exact fBo (h:=hRe)
def kws : List Bs:=[[97,108,108],[97,108,116],[97,110,100],[98,111,111,108],[98,121],[99,111,117,110,116],[102,97,108,115,101],[102,105,114,115,116],[105,102],[105,110,116],[108,97,99,107,115],[108,97,115,116],[109,97,116,99,104],[109,97,120],[109,105,110],[110,111,116],[111,114],[112,108,117,115],[113,117,101,114,121],[114,101,116,117,114,110],[115,101,113],[115,116,114,105,110,103],[115,117,109],[116,105,109,101],[116,114,117,101],[116,121,112,101],[119,104,101,114,101],[119,105,116,104,105,110]]
def kwS (ws:List Bs):Bs:=32 :: ws.flatMap fun w=>w++[32]
def kwB (s:Bs):Bool:=decide (s∈kws)
theorem cont_cons (b:UInt8) (l sub:Bs):Lib.contains (b :: l) sub=(sub.isPrefixOf (b :: l) || Lib.contains l sub):=by
 rw [Lib.contains,Lib.contains,Lib.index]
 cases h:sub.isPrefixOf (b :: l) with
 | true=>simp
 | false =>
  rcases Lib.index_spec l sub with ⟨h1,_⟩ | ⟨i,h1,_⟩
  · simp [h1]
  rw [h1]
  have:((i:Int) == -1)=false:=by rw [beq_eq_false_iff_ne];omega
  simp [this];omega
theorem cont_nil (c:UInt8) (t:Bs):Lib.contains [] (c :: t)=false:=rfl
theorem cont_one (c:UInt8):∀ s:Bs,Lib.contains s [c]=decide (c∈s)
 | []=>by rw [cont_nil];simp
 | b :: l=>by rw [cont_cons,cont_one c l,Bool.eq_iff_iff];simp [List.isPrefixOf]
theorem cont_skip (c:UInt8) (t:Bs):∀ w r:Bs,c∉w→Lib.contains (w++r) (c :: t)=Lib.contains r (c :: t)
 | [],r,_=>rfl
 | b :: l,r,h=>by
  rw [List.cons_append,cont_cons,cont_skip c t l r (fun e=>h (by simp [e]))]
  have:(c == b)=false:=by rw [beq_eq_false_iff_ne];rintro rfl;exact h (by simp)
  simp [List.isPrefixOf,this]
theorem pre_word (c:UInt8):∀ s w r:Bs,c∉s→c∉w→(s++[c]).isPrefixOf (w++c :: r)=decide (s=w)
 | [],[],r,_,_=>by simp [List.isPrefixOf]
 | [],b :: w,r,_,h=>by
  have:(c == b)=false:=by rw [beq_eq_false_iff_ne];rintro rfl;exact h (by simp)
  simp [List.isPrefixOf,this]
 | a :: s,[],r,h,_=>by
  have:(a == c)=false:=by rw [beq_eq_false_iff_ne];rintro rfl;exact h (by simp)
  simp [List.isPrefixOf,this]
 | a :: s,b :: w,r,h,h2=>by
  rw [List.cons_append,List.cons_append,List.isPrefixOf,pre_word c s w r (fun e=>h (by simp [e])) (fun e=>h2 (by simp [e])),Bool.eq_iff_iff]
  simp
theorem cont_words (s:Bs) (hs:32∉s):∀ ws:List Bs,(∀ w∈ws,(32:UInt8)∉w)→Lib.contains (kwS ws) (32 :: (s++[32]))=decide (s∈ws)
 | [],_=>by
  show Lib.contains [32] (32 :: (s++[32]))=_
  rw [cont_cons,cont_nil]
  cases s<;>simp [List.isPrefixOf]
 | w :: ws,h=>by
  have e:kwS (w :: ws)=32 :: (w++kwS ws):=by simp [kwS]
  rw [e,cont_cons,cont_skip 32 _ w _ (h w (by simp)),cont_words s hs ws (fun x hx=>h x (by simp [hx]))]
  have e2:(32 :: (s++[32])).isPrefixOf (32 :: (w++kwS ws))=decide (s=w):=by
   rw [List.isPrefixOf,kwS,pre_word 32 s w _ hs (h w (by simp))];simp
  rw [e2,Bool.eq_iff_iff];simp
theorem kws_sp : ∀ w∈kws,(32:UInt8)∉w:=by decide
theorem kw_prog (s:Bs):(decide (s≠[]) && (!Lib.contains s [32]) && Lib.contains (kwS kws) ([32]++s++[32]))=kwB s:=by
 rw [cont_one,kwB]
 by_cases hs:(32:UInt8)∈s
 · have:s∉kws:=fun h=>kws_sp s h hs
   simp [hs,this]
 have e:[32]++s++[32]=32 :: (s++[32]):=by simp
 rw [e,cont_words s hs kws kws_sp]
 by_cases h0:s=[]
 · subst h0;decide
 simp [h0,hs]
theorem kwS_eq : kwS kws=[32,97,108,108,32,97,108,116,32,97,110,100,32,98,111,111,108,32,98,121,32,99,111,117,110,116,32,102,97,108,115,101,32,102,105,114,115,116,32,105,102,32,105,110,116,32,108,97,99,107,115,32,108,97,115,116,32,109,97,116,99,104,32,109,97,120,32,109,105,110,32,110,111,116,32,111,114,32,112,108,117,115,32,113,117,101,114,121,32,114,101,116,117,114,110,32,115,101,113,32,115,116,114,105,110,103,32,115,117,109,32,116,105,109,101,32,116,114,117,101,32,116,121,112,101,32,119,104,101,114,101,32,119,105,116,104,105,110,32]:=by decide
def nmB (s:Bs):Bool:=nameB s && !kwB s
def nmE (s:Bs):Int:=if nmB s then 0 else 8
theorem Pat.exsL_nodes {l:List Pat} (h:∀ e∈l,e.exs=e.nodes.map Pat.cond):Pat.exsL l=(Pat.nodesL l).map Pat.cond:=by
 induction l with
 | nil=>simp [Pat.exsL,Pat.nodesL]
 | cons e r ih=>rw [Pat.exsL,Pat.nodesL,h e (by simp),ih fun e he=>h e (by simp [he]),List.map_append]
theorem Pat.exs_nodes : ∀ p:Pat,p.exs=p.nodes.map Pat.cond:=Pat.ind fun o a t v s n c h=>by
 rw [Pat.exs,Pat.nodes,List.map_cons,Pat.exsL_nodes h];rfl
theorem Pat.Sm_iff (p:Pat):p.Sm↔p.nodes.length≤1048576∧∀ q∈p.nodes,q.cond.Sm:=by
 rw [Pat.Sm,Pat.nodes_len,Pat.exs_nodes];simp
end Go.Am
end
