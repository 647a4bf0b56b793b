/- Contracts of the program's functions. -/
import Derived.Test.YtpdmaimjllhooaaGreatDoorPCt1
import Derived.Test.YtpdmaimjllhooaaGreatDoorProg
import Derived.Test.YtpdmaimjllhooaaGreatDoorRows
import Derived.Test.YtpdmaimjllhooaaGreatDoorCards
import Derived.Test.YtpdmaimjllhooaaGreatDoorTie
section
set_option maxHeartbeats 16000000
set_option maxRecDepth 20000
namespace Go.Am
open Go.Proofs Go.ChangeShapes Go.WideShapes Go.ChangeAt Go.RowKit
theorem cellsE : Tryz.prog.cellsOf 28=8:=by kernel_rfl
theorem cellsP : Tryz.prog.cellsOf 39=14:=by kernel_rfl
theorem aggE : wM EE.P 28=true:=by kernel_rfl
theorem aggP : wM EE.P 39=true:=by kernel_rfl
theorem rdInt {n:Nat} {x:AV} (h:El EE.P (Cl EE.P n) 3 x):∃ i,x=int i:=by
 obtain ⟨i,h,_⟩:=(h.one (by kernel_rfl)).int Tryz.underlying3
 exact ⟨i,by simpa using h⟩
theorem rdEx : ∀ (k:Nat) (x:AV),SizeOf.sizeOf x≤k→∀ n,El EE.P (Cl EE.P n) 28 x→∃ e:Ex,x=e.enc:=by
 intro k
 induction k with
 | zero=>intro x hk n h;cases x<;>simp at hk<;>omega
 | succ k ih =>
  intro x hk n h
  obtain ⟨cs,rfl,g⟩:=h.agg aggE
  obtain ⟨m,a,r,rfl,ha,b,r,rfl,hb,c,r,rfl,hc,d,r,rfl,hd,e,r,rfl,he,f,r,rfl,hf,rfl⟩:=g.struct Tryz.underlying28
  obtain ⟨i1,rfl,_⟩:=ha.int Tryz.underlying3
  obtain ⟨m2,es,rfl,hl,hes⟩:=hb.slice Tryz.underlying24
  obtain ⟨i3,rfl,_⟩:=hc.int Tryz.underlying3
  obtain ⟨i4,rfl,_⟩:=hd.int Tryz.underlying3
  obtain ⟨i5,rfl,_⟩:=he.int Tryz.underlying3
  obtain ⟨m3,a,r,rfl,ha,b,r,rfl,hb,c,r,rfl,hc,rfl⟩:=hf.struct Tryz.underlying26
  obtain ⟨i6,rfl,_⟩:=ha.int Tryz.underlying3
  obtain ⟨i7,rfl,_⟩:=hb.int Tryz.underlying3
  obtain ⟨s,rfl,_⟩:=hc.str Tryz.underlying9
  obtain ⟨l,rfl,_⟩:=wy (enc:=Ex.enc) (ok:=fun _=>True) fun x hx=>by
   have h1:=List.sizeOf_lt_of_mem hx
   obtain ⟨q,hq⟩:=ih x (by simp only [List.cons_append,List.nil_append,AV.agg.sizeOf_spec,List.cons.sizeOf_spec,AV.isl.sizeOf_spec] at hk;omega) m2 (hes x hx)
   exact ⟨q,hq,trivial⟩
  exact ⟨.mk i1 l i3 i4 i5 ⟨i6,i7,s⟩,by rw [Ex.enc_mk,cellsE];rfl⟩
theorem rdPat : ∀ (k:Nat) (x:AV),SizeOf.sizeOf x≤k→∀ n,El EE.P (Cl EE.P n) 39 x→∃ p:Pat,x=p.enc:=by
 intro k
 induction k with
 | zero=>intro x hk n h;cases x<;>simp at hk<;>omega
 | succ k ih =>
  intro x hk n h
  obtain ⟨cs,rfl,g⟩:=h.agg aggP
  obtain ⟨m,a,r,rfl,ha,b,r,rfl,hb,c,r,rfl,hc,d,r,rfl,hd,e,r,rfl,he,f,r,rfl,hf,g2,r,rfl,hg,rfl⟩:=g.struct Tryz.underlying39
  obtain ⟨i1,rfl,_⟩:=ha.int Tryz.underlying3
  obtain ⟨m2,es,rfl,hl,hes⟩:=hb.slice Tryz.underlying37
  obtain ⟨i3,rfl,_⟩:=hc.int Tryz.underlying3
  obtain ⟨i4,rfl,_⟩:=hd.int Tryz.underlying3
  obtain ⟨i5,rfl,_⟩:=he.int Tryz.underlying3
  obtain ⟨i6,rfl,_⟩:=hf.int Tryz.underlying3
  obtain ⟨ce,hce⟩:=rdEx _ (.agg g2) (Nat.le_refl _) m (by unfold El;rw [aggE];exact ⟨g2,rfl,hg⟩)
  obtain ⟨co,ca,cv,cf,ck,cx⟩:=ce
  rw [Ex.enc_mk] at hce
  injection hce with hce
  subst hce
  obtain ⟨l,rfl,_⟩:=wy (enc:=Pat.enc) (ok:=fun _=>True) fun x hx=>by
   have h1:=List.sizeOf_lt_of_mem hx
   obtain ⟨q,hq⟩:=ih x (by simp only [List.cons_append,List.nil_append,AV.agg.sizeOf_spec,List.cons.sizeOf_spec,AV.isl.sizeOf_spec] at hk;omega) m2 (hes x hx)
   exact ⟨q,hq,trivial⟩
  exact ⟨.mk i1 l i3 i4 i5 i6 (.mk co ca cv cf ck cx),by rw [Pat.enc_mk,cellsP];rfl⟩
theorem Ex.cntL_bulk {l:List Ex} (h:∀ e∈l,e.cnt≤e.enc.bulk):Ex.cntL l≤AV.bulkL (mapE Ex.enc l):=by
 induction l with
 | nil=>simp [Ex.cntL]
 | cons e r ih =>
  have h1:=h e (by simp)
  have h2:=ih fun e he=>h e (by simp [he])
  rw [zn] at h2 ⊢
  simp only [List.map_cons,AV.bulkL,Ex.cntL];omega
theorem Ex.cnt_bulk : ∀ e:Ex,e.cnt≤e.enc.bulk:=Ex.ind fun o a v f k x h=>by
 have:=Ex.cntL_bulk h
 rw [Ex.enc_mk]
 simp only [Ex.cnt,AV.bulk,AV.bulkL];omega
theorem Pat.cntL_bulk {l:List Pat} (h:∀ e∈l,e.cnt≤e.enc.bulk∧∀ c∈e.exs,c.cnt≤e.enc.bulk):Pat.cntL l≤AV.bulkL (mapE Pat.enc l)∧∀ c∈Pat.exsL l,c.cnt≤AV.bulkL (mapE Pat.enc l):=by
 induction l with
 | nil=>simp [Pat.cntL,Pat.exsL]
 | cons e r ih =>
  have h1:=h e (by simp)
  have h2:=ih fun e he=>h e (by simp [he])
  rw [zn] at h2 ⊢
  simp only [List.map_cons,AV.bulkL,Pat.cntL,Pat.exsL,List.mem_append]
  refine ⟨by omega,fun c hc=>?_⟩
  rcases hc with hc | hc
  · have:=h1.2 c hc;omega
  have:=h2.2 c hc;omega
theorem Pat.cnt_bulk : ∀ e:Pat,e.cnt≤e.enc.bulk∧∀ c∈e.exs,c.cnt≤e.enc.bulk:=Pat.ind fun o a t v s n c h=>by
 have h1:=Pat.cntL_bulk h
 obtain ⟨co,ca,cv,cf,ck,cx⟩:=c
 have h2:=Ex.cnt_bulk (.mk co ca cv cf ck cx)
 rw [Ex.enc_mk] at h2
 rw [Pat.enc_mk]
 simp only [Pat.cnt,Pat.exs,List.mem_cons,AV.bulk,AV.bulkL] at h2 ⊢
 refine ⟨by omega,fun c hc=>?_⟩
 rcases hc with rfl | hc
 · omega
 have:=h1.2 c hc;omega
theorem Pat.sm_of {p:Pat} (h:p.enc.bulk≤1048576):p.Sm:=by
 have:=Pat.cnt_bulk p
 exact ⟨by omega,fun c hc=>by have:=this.2 c hc;unfold Ex.Sm;omega⟩
theorem Ex.sm_of {p:Ex} (h:p.enc.bulk≤1048576):p.Sm:=by
 have:=Ex.cnt_bulk p
 unfold Ex.Sm;omega
theorem bulk_upto {H:Type}:(∀ d:DataW H,Proofs.YtpdmaimjllhooaaGreatDoor.Rows.uptoBulk d=xy d)∧(∀ d:List (DataW H),Proofs.YtpdmaimjllhooaaGreatDoor.Rows.uptoBulkAll d=dBulkAll d):=by
 have:∀ k:Nat,(∀ d:DataW H,SizeOf.sizeOf d≤k→Proofs.YtpdmaimjllhooaaGreatDoor.Rows.uptoBulk d=xy d)∧(∀ d:List (DataW H),SizeOf.sizeOf d≤k→Proofs.YtpdmaimjllhooaaGreatDoor.Rows.uptoBulkAll d=dBulkAll d)∧(∀ d:List (Lit × DataW H),SizeOf.sizeOf d≤k→Proofs.YtpdmaimjllhooaaGreatDoor.Rows.uptoBulkEntries d=dBulkEntries d)∧(∀ d:Lit × DataW H,SizeOf.sizeOf d≤k→Proofs.YtpdmaimjllhooaaGreatDoor.Rows.uptoBulkEntry d=dBulkEntry d):=by
  intro k
  induction k with
  | zero =>
   refine ⟨fun d h=>?_,fun d h=>?_,fun d h=>?_,fun d h=>?_⟩
   · cases d<;>simp at h<;>omega
   · cases d<;>simp at h<;>omega
   · cases d<;>simp at h<;>omega
   obtain ⟨a,b⟩:=d;simp at h<;>omega
  | succ k ih =>
   obtain ⟨i1,i2,i3,i4⟩:=ih
   refine ⟨fun d h=>?_,fun d h=>?_,fun d h=>?_,fun d h=>?_⟩
   · cases d with
     | lit l=>cases l<;>simp [Proofs.YtpdmaimjllhooaaGreatDoor.Rows.uptoBulk,xy]
     | nil=>simp [Proofs.YtpdmaimjllhooaaGreatDoor.Rows.uptoBulk,xy]
     | ptr d=>simp only [Proofs.YtpdmaimjllhooaaGreatDoor.Rows.uptoBulk,xy];rw [i1 d (by simp at h;omega)]
     | slice a b=>simp only [Proofs.YtpdmaimjllhooaaGreatDoor.Rows.uptoBulk,xy];rw [i2 a (by simp at h;omega),i2 b (by simp at h;omega)]
     | agg a=>simp only [Proofs.YtpdmaimjllhooaaGreatDoor.Rows.uptoBulk,xy];rw [i2 a (by simp at h;omega)]
     | iface t d=>simp only [Proofs.YtpdmaimjllhooaaGreatDoor.Rows.uptoBulk,xy];rw [i1 d (by simp at h;omega)]
     | map a=>simp only [Proofs.YtpdmaimjllhooaaGreatDoor.Rows.uptoBulk,xy];rw [i3 a (by simp at h;omega)]
     | held a=>simp only [Proofs.YtpdmaimjllhooaaGreatDoor.Rows.uptoBulk,xy]
   · cases d with
     | nil=>simp only [Proofs.YtpdmaimjllhooaaGreatDoor.Rows.uptoBulkAll,dBulkAll]
     | cons x r=>simp only [Proofs.YtpdmaimjllhooaaGreatDoor.Rows.uptoBulkAll,dBulkAll];rw [i1 x (by simp at h;omega),i2 r (by simp at h;omega)]
   · cases d with
     | nil=>simp only [Proofs.YtpdmaimjllhooaaGreatDoor.Rows.uptoBulkEntries,dBulkEntries]
     | cons x r=>simp only [Proofs.YtpdmaimjllhooaaGreatDoor.Rows.uptoBulkEntries,dBulkEntries];rw [i4 x (by simp at h;omega),i3 r (by simp at h;omega)]
   obtain ⟨l,b⟩:=d
   cases l<;>(simp only [Proofs.YtpdmaimjllhooaaGreatDoor.Rows.uptoBulkEntry,dBulkEntry];rw [i1 b (by simp at h;omega)])
 exact ⟨fun d=>(this _).1 d (Nat.le_refl _),fun d=>(this _).2.1 d (Nat.le_refl _)⟩
theorem own_none : ownKnob Tryz.prog.godebug=none:=by kernel_rfl
theorem kidsP : Kids EE.P (· < EE.P.types.size):=kids_rows (by kernel_rfl) (by kernel_rfl)
theorem fullP : ∀ t e,t<EE.P.types.size→EE.P.underlying t=some (.slice e)→0<EE.P.cellsOf e:=slices_full_of EE.P (by kernel_rfl)
end Go.Am
end
section
set_option maxHeartbeats 16000000
set_option maxRecDepth 100000
namespace Go.Am
open Go.Proofs
theorem P_pattern_Size : ∀ p:Pat,p.Sm→PCall EE 26 [p.enc] (.tup [int p.cnt,int p.dep]):=by
 refine Pat.ind ?_
 intro o a t v s n c ih hs
 obtain ⟨co,ca,cv,cf,ck,cx⟩:=c
 have hlen:=hs.len
 have hih:∀ q∈a,PCall EE 26 [q.enc] (.tup [int q.cnt,int q.dep]):=fun q hq=>ih q hq (hs.arg hq)
 have hcl:=Pat.closedI a
 have hcnt:=hs.1
 simp only [Pat.cnt] at hcnt
 have hde:=fun q:Pat=>Pat.dep_le q
 simp only [Pat.cnt,Pat.dep]
 rw [Pat.enc_mk]
 refine zt ?_;unhygienic intros
 generalize hes:mapE Pat.enc a=es at *
 have hel:es.length=a.length:=by rw [← hes,zr]
 generalize mapE Ex.enc ca=ec
 refine fB T26 [.t 2,.t 3] ?_
 refine Aq ?_
 refine za (ι:=List Pat × List Pat × Int × Int × Int) (fun p=>([(5,int p.2.2.2.2),(4,int p.2.2.2.1),(13,int p.2.2.1),(12,int (lenA es)),(11,.isl 14 es)],[])) (fun p=>a=p.1++p.2.1∧p.2.2.1=p.1.length∧p.2.2.2.1=1+Pat.cntL p.1∧Pat.depL 0 a=Pat.depL p.2.2.2.2.toNat p.2.1∧0≤p.2.2.2.2∧p.2.2.2.2≤1048576) (fun p=>p.2.1.length) ([],a,0,1,0) ⟨rfl,rfl,rfl,rfl,by simp⟩ ?_ ?_
 · exact (eS [.gone] [])
 rintro ⟨d,r,i,nn,dd⟩ ⟨g1,gi,gn,gd,gb⟩
 dsimp only at g1 gi gn gd gb ⊢
 cases r with
 | nil =>
  have L1:=zw g1
  try simp only [List.length] at L1
  have hc:iLt i (lenA es)=false:=xg e_iLt e_lenA (by omega)
  rw [List.append_nil] at g1
  rw [gd,Pat.depL,g1]
  have ha1:iAdd .i64 dd 1=((dd.toNat+1:Nat):Int):=by rw [wZ e_iAdd (by omega) (by omega)];omega
  have hn:nn=((1+Pat.cntL d:Nat):Int):=by omega
  have fz:=hc
  refine Cq ?_
  refine Aq ?_
  refine zl ?_
  refine Aq ?_
  refine zD rfl rfl ?_
  exact ⟨[],trivial,.tup' ⟨.of (congrArg int hn),.of (congrArg int ha1),trivial⟩⟩
 | cons q r =>
  have L1:=zw g1
  try simp only [List.length] at L1
  have hc:iLt i (lenA es)=true:=xf e_iLt e_lenA (by omega)
  have hat:=z7 e_atA hes g1 gi
  have hq:=hih q (by rw [g1];simp)
  have hqc:=Pat.closed q
  have hqd:=hde q
  rw [g1,Pat.cntL_append,Pat.cntL] at hcnt
  obtain ⟨qO,qA,qT,qV,qS,qN,qCo,qCa,qCv,qCf,qCk,qXk,qXn,qXt,hx⟩:=Pat.form q
  rw [hx] at hq hat hqc
  generalize hqn:(q.cnt:Int)=qn at hq
  generalize hqp:(q.dep:Int)=qp at hq
  have hn2:iAdd .i64 nn qn=1+Pat.cntL (d++[q]):=by rw [Pat.cntL_append,Pat.cntL,Pat.cntL,wZ e_iAdd (by omega) (by omega)];omega
  have hi2:iAdd .i64 i 1=((d++[q]).length:Int):=by rw [List.length_append];exact yq e_iAdd gi (by omega)
  have hd2:iMax dd qp=((max dd.toNat q.dep:Nat):Int):=by simp only [ee];split<;>omega
  have fz:=And.intro hc hat
  refine Cq ?_
  refine Cr ?_
  refine oPA hq ?_
  refine Aq ?_
  refine zp (d++[q],r,iAdd .i64 i 1,iAdd .i64 nn qn,iMax dd qp) ⟨by simp [g1],hi2,hn2,by rw [gd,hd2,Pat.depL];rfl,by show 0≤iMax dd qp;omega,by show iMax dd qp≤1048576;omega⟩ (by simp) (eS [.gone] [])
theorem enters_pattern_walk : yz EE.P 156:=enters_of rfl (by decide) T156.2
theorem enters_pattern_preorder_1 : yz EE.P 155:=enters_of rfl (by decide) T155.2
theorem C_walk (A0 A1 A2 A3 A4 A5 A6:List Pat→AObj) (Lp:AObj) (C0 C1:List Pat→AObj) (G:List Pat→Prop) (S:zz→Prop) (hb:∀ d,∀ o∈[A0 d,A1 d,A2 d,A3 d,A4 d,A5 d,A6 d,Lp,C0 d,C1 d],Keeps o) :
 ∀ p:Pat,p.Sm→∀ (pre all:List Pat) (H0:zz),HEnt EE 8 7 H0 [A0 pre,A1 pre,A2 pre,A3 pre,A4 pre,A5 pre,A6 pre,Lp,C0 pre,C1 pre]→(∃ post,all=pre++(p.nodes++post))→G pre →
  (∀ d q r,all=d++q :: r→G d→tx EE 7 [q.enc] [A0 d,A1 d,A2 d,A3 d,A4 d,A5 d,A6 d,Lp,C0 d,C1 d] (YdR EE (G (d++[q])) [A0 (d++[q]),A1 (d++[q]),A2 (d++[q]),A3 (d++[q]),A4 (d++[q]),A5 (d++[q]),A6 (d++[q]),Lp,C0 (d++[q]),C1 (d++[q])] S)) →
  ACallN EE 8 156 [p.enc,.yld 7] H0 (WkR (G (pre++p.nodes)) [A0 (pre++p.nodes),A1 (pre++p.nodes),A2 (pre++p.nodes),A3 (pre++p.nodes),A4 (pre++p.nodes),A5 (pre++p.nodes),A6 (pre++p.nodes),Lp,C0 (pre++p.nodes),C1 (pre++p.nodes)] S):=by
 refine Pat.ind ?_
 intro o a t v s n c ih hs pre all H0 h0 hpost hG hy
 have hlen:=hs.len
 obtain ⟨post,hall⟩:=hpost
 rw [Pat.nodes,List.cons_append] at hall
 have hyp:=hy pre _ _ hall hG
 obtain ⟨pp,hpp⟩:∃ pp,pp=Pat.mk o a t v s n c:=⟨_,rfl⟩
 rw [← hpp] at hall hyp
 have hnod:(Pat.mk o a t v s n c).nodes=pp :: Pat.nodesL a:=by rw [Pat.nodes,hpp]
 rw [hnod]
 have hpc:=Pat.closed pp
 have hpe:pp.enc=(Pat.mk o a t v s n c).enc:=by rw [hpp]
 have hih:∀ q∈a,_:=fun q hq=>ih q hq (hs.arg hq)
 have hcl:=Pat.closedI a
 have hcL:=Pat.closedL a
 obtain ⟨co,ca,cv,cf,ck,xk,xn,xt⟩:=c
 rw [Pat.enc_mk] at hpe ⊢
 dsimp only at hpe ⊢
 rw [hpe] at hyp hpc
 clear ih hpp hpe hs hnod
 refine zt ?_;unhygienic intros
 generalize hes:mapE Pat.enc a=es at *
 generalize mapE Ex.enc ca=ec at *
 have hel:es.length=a.length:=by rw [← hes,zr]
 have hpcl:AV.closedL [int o,.isl 14 es,int t,int v,int s,int n,int co,.isl 8 ec,int cv,int cf,int ck,int xk,int xn,str xt]=true:=hpc
 have hnt:bNot true=false:=by simp [ee]
 have hnf:bNot false=true:=by simp [ee]
 have hd:∀ d,∀ o∈[A0 d,A1 d,A2 d,A3 d,A4 d,A5 d,A6 d,Lp,C0 d,C1 d],o.sub (vu 10)=o:=fun d=>keeps_drop rfl (hb d)
 have hip:(AV.iptr [int o,.isl 14 es,int t,int v,int s,int n,int co,.isl 8 ec,int cv,int cf,int ck,int xk,int xn,str xt]).closed=true:=hpc
 refine nB T156 [.t 4] ?_
 refine x6 (h0.ent (F':=[(0,.agg [int o,.isl 14 es,int t,int v,int s,int n,int co,.isl 8 ec,int cv,int cf,int ck,int xk,int xn,str xt]),(1,.yld 7)]) ⟨.cl hpc,.refl _,trivial⟩) ?_
 have hyall:∀ d q r,pre++pp :: (Pat.nodesL a++post)=d++q :: r→G d→_:=fun d q r h hg=>hy d q r (hall.trans h) hg
 refine goA 0 ?_
 refine on_fz10 (F':=[(8,.agg [int o,.isl 14 es,int t,int v,int s,int n,int co,.isl 8 ec,int cv,int cf,int ck,int xk,int xn,str xt]),(7,.yld 7),(2,.iptr [int o,.isl 14 es,int t,int v,int s,int n,int co,.isl 8 ec,int cv,int cf,int ck,int xk,int xn,str xt]),(1,.yld 7)]) (hb pre) hpcl ⟨.cl hpc,.refl _,.refl _,.refl _,trivial⟩ ?_
 refine on_callv rfl rfl rfl rfl hyp ?_
 rintro v1 H1 (⟨rfl,hG1,he⟩ | ⟨rfl,hS⟩)
 rotate_left
 · have fz:=hnf
   refine Cr ?_
   exact yL (.refl _ _ _ _ _) rfl (.inr ⟨rfl,hS⟩)
 refine yD (he.ent (F':=[(9,.val (.bool true)),(2,.iptr [int o,.isl 14 es,int t,int v,int s,int n,int co,.isl 8 ec,int cv,int cf,int ck,int xk,int xn,str xt]),(1,.yld 7)]) ⟨.refl _,.cl hip,.refl _,trivial⟩) ?_
 have fz:=hnt
 refine Cq ?_
 refine Aq ?_
 refine za (ι:=List Pat × List Pat × Int × List Pat) (fun p=>([(14,int p.2.2.1),(13,int (lenA es)),(12,.isl 14 es),(1,.yld 7)],[A0 p.2.2.2,A1 p.2.2.2,A2 p.2.2.2,A3 p.2.2.2,A4 p.2.2.2,A5 p.2.2.2,A6 p.2.2.2,Lp,C0 p.2.2.2,C1 p.2.2.2])) (fun p=>a=p.1++p.2.1∧p.2.2.1=p.1.length∧p.2.2.2=pre++pp :: Pat.nodesL p.1∧G p.2.2.2) (fun p=>p.2.1.length) ([],a,0,pre++[pp]) ⟨rfl,rfl,by simp [Pat.nodesL],hG1⟩ ?_ ?_
 · exact xm ⟨.refl _,.refl _,.refl _,.refl _,trivial⟩
 rintro ⟨d,r,i,x⟩ ⟨g1,gi,gx,gG⟩
 dsimp only at g1 gi gx gG ⊢
 cases r with
 | nil =>
  have L1:=zw g1
  try simp only [List.length] at L1
  have hc:iLt i (lenA es)=false:=xg e_iLt e_lenA (by omega)
  rw [List.append_nil] at g1
  have fz:=hc
  refine Cr ?_
  refine zl ?_
  refine Aq ?_
  exact yL (.refl _ _ _ _ _) rfl (.inl ⟨rfl,by rw [g1,← gx];exact gG,by rw [g1,gx]⟩)
 | cons q r =>
  have L1:=zw g1
  try simp only [List.length] at L1
  have hc:iLt i (lenA es)=true:=xf e_iLt e_lenA (by omega)
  have hat:=z7 e_atA hes g1 gi
  have hq:=hih q (by rw [g1];simp) x (pre++pp :: (Pat.nodesL a++post)) [A0 x,A1 x,A2 x,A3 x,A4 x,A5 x,A6 x,Lp,C0 x,C1 x] (HEnt.refl (by simp)) ⟨Pat.nodesL r++post,by rw [gx,g1,Pat.nodesL_append];simp [Pat.nodesL]⟩ gG hyall
  have hqc:=Pat.closed q
  have hi2:iAdd .i64 i 1=((d++[q]).length:Int):=by rw [List.length_append];exact yq e_iAdd gi (by omega)
  have hx2:x++q.nodes=pre++pp :: Pat.nodesL (d++[q]):=by rw [gx,Pat.nodesL_append];simp [Pat.nodesL]
  obtain ⟨qO,qA,qT,qV,qS,qN,qCo,qCa,qCv,qCf,qCk,qXk,qXn,qXt,hx⟩:=Pat.form q
  rw [hx] at hat hqc hq
  generalize hXx:x++q.nodes=X at hq hx2
  have fz:=And.intro hc hat
  refine Cr ?_
  refine on_drop (H:=[A0 x,A1 x,A2 x,A3 x,A4 x,A5 x,A6 x,Lp,C0 x,C1 x]) (X:=[_]) (F':=[(18,.agg [int qO,.isl 14 qA,int qT,int qV,int qS,int qN,int qCo,.isl 8 qCa,int qCv,int qCf,int qCk,int qXk,int qXn,str qXt]),(19,.yld 7),(14,int i),(13,int (lenA es)),(12,.isl 14 es),(1,.yld 7)]) (hd x) (by simp) ⟨.cl hqc,.refl _,.refl _,.refl _,.cl hcl,.refl _,trivial⟩ ?_
  refine on_callN (F2:=[(14,int i),(13,int (lenA es)),(12,.isl 14 es),(1,.yld 7)]) rfl rfl rfl enters_pattern_walk hq ⟨.refl _,.refl _,.cl hcl,.refl _,trivial⟩ ?_
  rintro v2 H2 (⟨rfl,hG2,rfl⟩ | ⟨rfl,hS⟩)
  · have fz:=hnt
    refine Cr ?_
    exact zp (d++[q],r,iAdd .i64 i 1,X) ⟨by simp [g1],hi2,hx2,hG2⟩ (by simp) (xm ⟨.refl _,.refl _,.refl _,.refl _,trivial⟩)
  have fz:=hnf
  refine Cr ?_
  refine zi ?_
  refine Aq ?_
  exact yL (.refl _ _ _ _ _) rfl (.inr ⟨rfl,hS⟩)
theorem C_preorder1 (A0 A1 A2 A3 A4 A5 A6:List Pat→AObj) (Lp:AObj) (C0 C1:List Pat→AObj) (G:List Pat→Prop) (S:zz→Prop) (hb:∀ d,∀ o∈[A0 d,A1 d,A2 d,A3 d,A4 d,A5 d,A6 d,Lp,C0 d,C1 d],Keeps o)
 (p:Pat) (hs:p.Sm) {cs:List AV} (hp:p.enc=.agg cs) (H0:zz) (hN:H0.length=8) (h0:HEnt EE 8 7 H0 [A0 [],A1 [],A2 [],A3 [],A4 [],A5 [],A6 [],Lp,C0 [],C1 []]) (hG:G [])
  (hy:∀ d q r,p.nodes=d++q :: r→G d→tx EE 7 [q.enc] [A0 d,A1 d,A2 d,A3 d,A4 d,A5 d,A6 d,Lp,C0 d,C1 d] (YdR EE (G (d++[q])) [A0 (d++[q]),A1 (d++[q]),A2 (d++[q]),A3 (d++[q]),A4 (d++[q]),A5 (d++[q]),A6 (d++[q]),Lp,C0 (d++[q]),C1 (d++[q])] S)) :
  ACall EE 155 [.yld 7,.iptr cs] H0 (fun _ H1=>(G p.nodes∧H1=[A0 p.nodes,A1 p.nodes,A2 p.nodes,A3 p.nodes,A4 p.nodes,A5 p.nodes,A6 p.nodes,Lp,C0 p.nodes,C1 p.nodes])∨S H1):=by
 have hw:=C_walk A0 A1 A2 A3 A4 A5 A6 Lp C0 C1 G S hb p hs [] p.nodes H0 h0 ⟨[],by simp⟩ hG hy
 rw [List.nil_append] at hw
 have hpc:=Pat.closed p
 obtain ⟨pO,pA,pT,pV,pS,pN,pCo,pCa,pCv,pCf,pCk,pXk,pXn,pXt,hx⟩:=Pat.form p
 rw [hx] at hp hw hpc
 injection hp with hp
 subst hp
 generalize p.nodes=nl at *
 clear hy h0
 have hip:(AV.iptr [int pO,.isl 14 pA,int pT,int pV,int pS,int pN,int pCo,.isl 8 pCa,int pCv,int pCf,int pCk,int pXk,int pXn,str pXt]).closed=true:=hpc
 refine zt ?_;unhygienic intros
 refine rB T155 [] ?_
 rw [hN]
 refine goA 0 ?_
 refine on_callN (F2:=[]) rfl rfl rfl enters_pattern_walk hw trivial ?_
 rintro v2 H2 (⟨rfl,hG2,rfl⟩ | ⟨rfl,hS⟩)
 · refine goA 0 ?_
   exact o_norm (.refl _ _ _ _ _) rfl (.inl ⟨hG2,rfl⟩)
 refine goA 0 ?_
 exact o_norm (.refl _ _ _ _ _) rfl (.inr hS)
theorem P_preorder (p:Pat) {cs:List AV} (hp:p.enc=.agg cs):PCall EE 123 [.agg cs] (.fn 155 [.iptr cs]):=by
 have hpc:=Pat.closed p
 obtain ⟨pO,pA,pT,pV,pS,pN,pCo,pCa,pCv,pCf,pCk,pXk,pXn,pXt,hx⟩:=Pat.form p
 rw [hx] at hp hpc
 injection hp with hp
 subst hp
 have hcl:AV.closedL [int pO,.isl 14 pA,int pT,int pV,int pS,int pN,int pCo,.isl 8 pCa,int pCv,int pCf,int pCk,int pXk,int pXn,str pXt]=true:=hpc
 refine zt ?_;unhygienic intros
 refine fB T123 [.t 2] ?_
 refine goA 0 ?_
 refine zD rfl rfl ⟨[.icells [int pO,.isl 14 pA,int pT,int pV,int pS,int pN,int pCo,.isl 8 pCa,int pCv,int pCf,int pCk,int pXk,int pXn,str pXt]],⟨⟨_,rfl,(zx _ hcl).symm⟩,trivial⟩,.of rfl⟩
theorem on_preorder {n N:Nat} {Q:zL→AFr→zz→Prop} {k:List KI} {F:AFr} {f:Opd} {ps:List Nat} {a b:ACode} {o0 o1 o2 o3 o4 o5 o6:AObj} (A0 A1 A2 A3 A4 A5 A6 C0 C1:List Pat→AObj) (G:List Pat→Prop) (p:Pat) (hs:p.Sm) {cs:List AV} (hp:p.enc=.agg cs)
 (hf:f.ev EE.G F=.fn 155 [.iptr cs]) (hps:ps.length=1) (hF:FK F) (hG:G [])
 (h0:HEnt EE 8 7 [o0,o1,o2,o3,o4,o5,o6,.loop F n ps a b .ready none] [A0 [],A1 [],A2 [],A3 [],A4 [],A5 [],A6 [],.loop F n ps a b .ready none,C0 [],C1 []])
 (k0:∀ d,Keeps (A0 d)) (k1:∀ d,Keeps (A1 d)) (k2:∀ d,Keeps (A2 d)) (k3:∀ d,Keeps (A3 d)) (k4:∀ d,Keeps (A4 d)) (k5:∀ d,Keeps (A5 d)) (k6:∀ d,Keeps (A6 d)) (k8:∀ d,Keeps (C0 d)) (k9:∀ d,Keeps (C1 d))
 (hend:G p.nodes→Holds EE n N Q (.out .normal) k F [A0 p.nodes,A1 p.nodes,A2 p.nodes,A3 p.nodes,A4 p.nodes,A5 p.nodes,A6 p.nodes,.dead,C0 p.nodes,C1 p.nodes])
 (hy:∀ d q r,p.nodes=d++q :: r→G d→Holds EE n 10 (AssignQ EE 7 10 F n ps a b (YdR EE (G (d++[q])) [A0 (d++[q]),A1 (d++[q]),A2 (d++[q]),A3 (d++[q]),A4 (d++[q]),A5 (d++[q]),A6 (d++[q]),.loop F n ps a b .ready none,C0 (d++[q]),C1 (d++[q])] (StopS EE n N Q k F ps a b))) (.code a) [] (td F ps [q.enc])
  [A0 d,A1 d,A2 d,A3 d,A4 d,A5 d,A6 d,.loop F n ps a b .ready none,C0 d,C1 d]) :
 Holds EE n N Q (.code (.rfun f ps a b)) k F [o0,o1,o2,o3,o4,o5,o6]:=by
 refine on_rfun hf enters_pattern_preorder_1 ?_
 refine ACall.mono (C_preorder1 A0 A1 A2 A3 A4 A5 A6 (.loop F n ps a b .ready none) C0 C1 G (StopS EE n N Q k F ps a b) (fun d o ho=>?_) p hs hp _ rfl h0 hG (fun d q r h hg=>yield_round (l:=7) rfl hps (hy d q r h hg))) ?_
 · simp only [List.mem_cons,List.not_mem_nil,or_false] at ho
   rcases ho with rfl | rfl | rfl | rfl | rfl | rfl | rfl | rfl | rfl | rfl
   · exact k0 d
   · exact k1 d
   · exact k2 d
   · exact k3 d
   · exact k4 d
   · exact k5 d
   · exact k6 d
   · exact .loop hF
   · exact k8 d
   exact k9 d
 rintro v H1 (⟨hg,rfl⟩ | ⟨e,h1,h2⟩)
 · exact ⟨.ready,none,rfl,by simp,hend hg⟩
 exact ⟨.done,some e,h1,by simp,h2⟩
mutual
def Ex.tot (lim:Nat):Ex→Nat
 | .mk _ a _ _ _ _=>Ex.totL lim 1 a
def Ex.totL (lim:Nat):Nat→List Ex→Nat
 | n,[]=>n
 | n,e :: r=>if n≤lim then Ex.totL lim (n+e.tot lim) r else n
end
theorem Ex.totL_le {lim:Nat} {l:List Ex} (h:∀ e∈l,e.tot lim≤e.cnt):∀ n,Ex.totL lim n l≤n+Ex.cntL l:=by
 induction l with
 | nil=>intro n;simp [Ex.totL]
 | cons e r ih =>
  intro n
  have h1:=h e (by simp)
  have h2:=ih (fun e he=>h e (by simp [he])) (n+e.tot lim)
  simp only [Ex.totL,Ex.cntL];split<;>omega
theorem Ex.tot_le (lim:Nat):∀ e:Ex,e.tot lim≤e.cnt:=Ex.ind fun o a v f k x h=>by
 have:=Ex.totL_le h 1
 simp only [Ex.tot,Ex.cnt];omega
theorem Ex.totL_eq {lim:Nat} {l:List Ex} (h:∀ e∈l,e.cnt≤lim→e.tot lim=e.cnt):∀ n,n+Ex.cntL l≤lim→Ex.totL lim n l=n+Ex.cntL l:=by
 induction l with
 | nil=>intro n _;simp [Ex.totL,Ex.cntL]
 | cons e r ih =>
  intro n hn
  simp only [Ex.cntL] at hn ⊢
  have h1:=h e (by simp) (by omega)
  rw [Ex.totL,if_pos (by omega),ih (fun e he=>h e (by simp [he])) _ (by omega)];omega
theorem Ex.tot_eq {lim:Nat}:∀ e:Ex,e.cnt≤lim→e.tot lim=e.cnt:=Ex.ind fun o a v f k x h hl=>by
 simp only [Ex.tot,Ex.cnt] at hl ⊢
 exact Ex.totL_eq h 1 hl
theorem Ex.totL_gt {lim:Nat} {l:List Ex} (h:∀ e∈l,lim<e.cnt→lim<e.tot lim):∀ n,lim<n+Ex.cntL l→lim<Ex.totL lim n l:=by
 induction l with
 | nil=>intro n hn;simpa [Ex.totL,Ex.cntL] using hn
 | cons e r ih =>
  intro n hn
  simp only [Ex.cntL] at hn
  rw [Ex.totL]
  split
  · refine ih (fun e he=>h e (by simp [he])) _ ?_
    by_cases hc:e.cnt≤lim
    · rw [Ex.tot_eq e hc];omega
    have:=h e (by simp) (by omega);omega
  omega
theorem Ex.tot_gt {lim:Nat}:∀ e:Ex,lim<e.cnt→lim<e.tot lim:=Ex.ind fun o a v f k x h hl=>by
 simp only [Ex.tot,Ex.cnt] at hl ⊢
 exact Ex.totL_gt h 1 hl
theorem Ex.tot_iff (e:Ex) (lim:Nat):e.tot lim≤lim↔e.cnt≤lim:=by
 by_cases h:e.cnt≤lim
 · rw [Ex.tot_eq e h]
 have:=Ex.tot_gt (lim:=lim) e (by omega);omega
theorem P_ref08_Count (lim:Nat) (hlim:lim≤1099511627776):∀ p:Ex,p.Sm→PCall EE 41 [p.enc,int lim] (int (p.tot lim)):=by
 generalize hli:(lim:Int)=li
 refine Ex.ind ?_
 intro o a v f k x ih hs
 obtain ⟨xk,xn,xt⟩:=x
 have hlen:=hs.len
 have hih:∀ q∈a,PCall EE 41 [q.enc,int li] (int (q.tot lim)):=fun q hq=>ih q hq (hs.arg hq)
 have hcl:=Ex.closedI a
 have hcnt:Ex.cntL a≤1048576:=by unfold Ex.Sm at hs;simp only [Ex.cnt] at hs;omega
 have hde:=fun q:Ex=>Ex.tot_le lim q
 simp only [Ex.tot]
 obtain ⟨R,hR⟩:∃ R,R=Ex.totL lim 1 a:=⟨_,rfl⟩
 rw [← hR,Ex.enc_mk]
 refine zt ?_;unhygienic intros
 generalize hes:mapE Ex.enc a=es at *
 have hel:es.length=a.length:=by rw [← hes,zr]
 refine fB T41 [.t 4] ?_
 refine Aq ?_
 refine za (ι:=List Ex × List Ex × Int × Int) (fun p=>([(5,int p.2.2.2),(6,int p.2.2.1),(1,int li),(2,.ptr 0 0)],[.cells [int o,.isl 8 es,int v,int f,int k,int xk,int xn,str xt]])) (fun p=>a=p.1++p.2.1∧p.2.2.1=p.1.length∧p.2.2.2≤1+Ex.cntL p.1∧0≤p.2.2.2∧R=Ex.totL lim p.2.2.2.toNat p.2.1) (fun p=>p.2.1.length) ([],a,0,1) ⟨rfl,rfl,by simp [Ex.cntL],by simp,hR⟩ ?_ ?_
 · exact (eS [.to 0] [some 0])
 rintro ⟨d,r,i,nn⟩ ⟨g1,gi,gn,gp,gt⟩
 dsimp only at g1 gi gn gp gt ⊢
 have hnt:(nn.toNat:Int)=nn:=Int.toNat_of_nonneg gp
 cases r with
 | nil =>
  have L1:=zw g1
  try simp only [List.length] at L1
  have hc:iLt i (lenA es)=false:=xg e_iLt e_lenA (by omega)
  rw [Ex.totL] at gt
  have hv:nn=(R:Int):=by omega
  have hb:∀ b,bAnd false b=false:=by simp [ee]
  have fz:=And.intro hc hb
  refine Cq ?_
  refine Aq ?_
  refine zl ?_
  refine Aq ?_
  exact fI (h:=hv)
 | cons q r =>
  have L1:=zw g1
  try simp only [List.length] at L1
  have hc:iLt i (lenA es)=true:=xf e_iLt e_lenA (by omega)
  have hat:=z7 e_atA hes g1 gi
  have hq:=hih q (by rw [g1];simp)
  have hqc:=Ex.closed q
  have hqd:=hde q
  rw [g1,Ex.cntL_append,Ex.cntL] at hcnt
  obtain ⟨qO,qA,qV,qF,qK,qXk,qXn,qXt,hx⟩:=Ex.form q
  rw [hx] at hq hat hqc
  have hb:∀ b,bAnd true b=b:=by simp [ee]
  rw [Ex.totL] at gt
  by_cases hle:nn≤li
  · have h2:iLe nn li=true:=by simp [ee];omega
    rw [if_pos (by omega)] at gt
    generalize hqn:(q.tot lim:Int)=qn at hq
    have hn2:iAdd .i64 nn qn=nn+qn:=wZ e_iAdd (by omega) (by omega)
    have hi2:iAdd .i64 i 1=((d++[q]).length:Int):=by rw [List.length_append];exact yq e_iAdd gi (by omega)
    have hn4:iAdd .i64 nn qn≤1+Ex.cntL (d++[q])∧0≤iAdd .i64 nn qn:=by rw [Ex.cntL_append,Ex.cntL,Ex.cntL,hn2];omega
    have hn3:(iAdd .i64 nn qn).toNat=nn.toNat+q.tot lim:=by omega
    have fz:=And.intro hc (And.intro hat (And.intro hb h2))
    refine Cq ?_
    refine Cr ?_
    refine oPA hq ?_
    refine Aq ?_
    refine zp (d++[q],r,iAdd .i64 i 1,iAdd .i64 nn qn) ⟨by simp [g1],hi2,hn4.1,hn4.2,hn3 ▸ gt⟩ (by simp) (eS [.to 0] [some 0])
  have h2:iLe nn li=false:=by simp [ee];omega
  rw [if_neg (by omega)] at gt
  have hv:nn=(R:Int):=by omega
  have fz:=And.intro hc (And.intro hat (And.intro hb h2))
  refine Cq ?_
  refine Aq ?_
  refine zl ?_
  refine Aq ?_
  exact fI (h:=hv)
theorem P_ref08_Depth : ∀ p:Ex,p.Sm→PCall EE 42 [p.enc] (int p.dep):=by
 refine Ex.ind ?_
 intro o a v f k x ih hs
 obtain ⟨xk,xn,xt⟩:=x
 have hlen:=hs.len
 have hih:∀ q∈a,PCall EE 42 [q.enc] (int q.dep):=fun q hq=>ih q hq (hs.arg hq)
 have hcl:=Ex.closedI a
 have hcnt:Ex.cntL a≤1048576:=by unfold Ex.Sm at hs;simp only [Ex.cnt] at hs;omega
 have hde:=fun q:Ex=>Ex.dep_le q
 simp only [Ex.dep]
 obtain ⟨R,hR⟩:∃ R,R=Ex.depL 0 a:=⟨_,rfl⟩
 rw [← hR,Ex.enc_mk]
 refine zt ?_;unhygienic intros
 generalize hes:mapE Ex.enc a=es at *
 have hel:es.length=a.length:=by rw [← hes,zr]
 refine fB T42 [.t 2] ?_
 refine Aq ?_
 refine za (ι:=List Ex × List Ex × Int × Int) (fun p=>([(3,int p.2.2.2),(4,int p.2.2.1),(1,.ptr 0 0)],[.cells [int o,.isl 8 es,int v,int f,int k,int xk,int xn,str xt]])) (fun p=>a=p.1++p.2.1∧p.2.2.1=p.1.length∧p.2.2.2≤1048576∧0≤p.2.2.2∧R=Ex.depL p.2.2.2.toNat p.2.1) (fun p=>p.2.1.length) ([],a,0,0) ⟨rfl,rfl,by simp,by simp,hR⟩ ?_ ?_
 · exact (eS [.to 0] [some 0])
 rintro ⟨d,r,i,dd⟩ ⟨g1,gi,gn,gp,gt⟩
 dsimp only at g1 gi gn gp gt ⊢
 cases r with
 | nil =>
  have L1:=zw g1
  try simp only [List.length] at L1
  have hc:iLt i (lenA es)=false:=xg e_iLt e_lenA (by omega)
  rw [Ex.depL] at gt
  have ha1:iAdd .i64 dd 1=((R+1:Nat):Int):=by rw [wZ e_iAdd (by omega) (by omega)];omega
  have fz:=hc
  refine Cq ?_
  refine Aq ?_
  refine zl ?_
  refine Aq ?_
  exact fI (h:=ha1)
 | cons q r =>
  have L1:=zw g1
  try simp only [List.length] at L1
  have hc:iLt i (lenA es)=true:=xf e_iLt e_lenA (by omega)
  have hat:=z7 e_atA hes g1 gi
  have hq:=hih q (by rw [g1];simp)
  have hqc:=Ex.closed q
  have hqd:=hde q
  rw [g1,Ex.cntL_append,Ex.cntL] at hcnt
  obtain ⟨qO,qA,qV,qF,qK,qXk,qXn,qXt,hx⟩:=Ex.form q
  rw [hx] at hq hat hqc
  rw [Ex.depL] at gt
  generalize hqn:(q.dep:Int)=qn at hq
  have hd2:iMax dd qn=((max dd.toNat q.dep:Nat):Int):=by simp only [ee];split<;>omega
  have hd3:(iMax dd qn).toNat=max dd.toNat q.dep:=by omega
  have hi2:iAdd .i64 i 1=((d++[q]).length:Int):=by rw [List.length_append];exact yq e_iAdd gi (by omega)
  have fz:=And.intro hc hat
  refine Cq ?_
  refine Cr ?_
  refine oPA hq ?_
  refine Aq ?_
  refine zp (d++[q],r,iAdd .i64 i 1,iMax dd qn) ⟨by simp [g1],hi2,by show iMax dd qn≤1048576;omega,by show 0≤iMax dd qn;omega,hd3 ▸ gt⟩ (by simp) (eS [.to 0] [some 0])
theorem P_ref09_Depth : ∀ p:Pat,p.Sm→PCall EE 87 [p.enc] (int p.dep):=by
 refine Pat.ind ?_
 intro o a t v s n c ih hs
 obtain ⟨co,ca,cv,cf,ck,xk,xn,xt⟩:=c
 have hlen:=hs.len
 have hih:∀ q∈a,PCall EE 87 [q.enc] (int q.dep):=fun q hq=>ih q hq (hs.arg hq)
 have hcl:=Pat.closedI a
 have hce:=Ex.closedI ca
 have hcnt:Pat.cntL a≤1048576:=by have hs:=hs.1;simp only [Pat.cnt] at hs;omega
 have hde:=fun q:Pat=>Pat.dep_le q
 simp only [Pat.dep]
 obtain ⟨R,hR⟩:∃ R,R=Pat.depL 0 a:=⟨_,rfl⟩
 rw [← hR,Pat.enc_mk]
 refine zt ?_;unhygienic intros
 generalize hes:mapE Pat.enc a=es at *
 generalize mapE Ex.enc ca=ec at *
 have hel:es.length=a.length:=by rw [← hes,zr]
 refine fB T87 [.t 2] ?_
 refine Aq ?_
 refine za (ι:=List Pat × List Pat × Int × Int) (fun p=>([(3,int p.2.2.2),(4,int p.2.2.1),(1,.ptr 0 0)],[.cells [int o,.isl 14 es,int t,int v,int s,int n,int co,.isl 8 ec,int cv,int cf,int ck,int xk,int xn,str xt]])) (fun p=>a=p.1++p.2.1∧p.2.2.1=p.1.length∧p.2.2.2≤1048576∧0≤p.2.2.2∧R=Pat.depL p.2.2.2.toNat p.2.1) (fun p=>p.2.1.length) ([],a,0,0) ⟨rfl,rfl,by simp,by simp,hR⟩ ?_ ?_
 · exact (eS [.to 0] [some 0])
 rintro ⟨d,r,i,dd⟩ ⟨g1,gi,gn,gp,gt⟩
 dsimp only at g1 gi gn gp gt ⊢
 cases r with
 | nil =>
  have L1:=zw g1
  try simp only [List.length] at L1
  have hc:iLt i (lenA es)=false:=xg e_iLt e_lenA (by omega)
  rw [Pat.depL] at gt
  have ha1:iAdd .i64 dd 1=((R+1:Nat):Int):=by rw [wZ e_iAdd (by omega) (by omega)];omega
  have fz:=hc
  refine Cq ?_
  refine Aq ?_
  refine zl ?_
  refine Aq ?_
  exact fI (h:=ha1)
 | cons q r =>
  have L1:=zw g1
  try simp only [List.length] at L1
  have hc:iLt i (lenA es)=true:=xf e_iLt e_lenA (by omega)
  have hat:=z7 e_atA hes g1 gi
  have hq:=hih q (by rw [g1];simp)
  have hqc:=Pat.closed q
  have hqd:=hde q
  rw [g1,Pat.cntL_append,Pat.cntL] at hcnt
  obtain ⟨qO,qA,qT,qV,qS,qN,qCo,qCa,qCv,qCf,qCk,qXk,qXn,qXt,hx⟩:=Pat.form q
  rw [hx] at hq hat hqc
  rw [Pat.depL] at gt
  generalize hqn:(q.dep:Int)=qn at hq
  have hd2:iMax dd qn=((max dd.toNat q.dep:Nat):Int):=by simp only [ee];split<;>omega
  have hd3:(iMax dd qn).toNat=max dd.toNat q.dep:=by omega
  have hi2:iAdd .i64 i 1=((d++[q]).length:Int):=by rw [List.length_append];exact yq e_iAdd gi (by omega)
  have fz:=And.intro hc hat
  refine Cq ?_
  refine Cr ?_
  refine oPA hq ?_
  refine Aq ?_
  refine zp (d++[q],r,iAdd .i64 i 1,iMax dd qn) ⟨by simp [g1],hi2,by show iMax dd qn≤1048576;omega,by show 0≤iMax dd qn;omega,hd3 ▸ gt⟩ (by simp) (eS [.to 0] [some 0])
theorem P_Equal (l:List Int) (hl:l.length<1048577):PCall EE 23 [.isl 1 (mapE int l),.isl 1 (mapE int l)] (bool true):=by
 have hcI:=zq l
 refine zt ?_;unhygienic intros
 generalize hes:mapE int l=es at *
 have hel:es.length=l.length:=by rw [← hes,zr]
 have k0:iNe (lenA es) (lenA es)=false:=by simp only [ee];simp
 have k1:∀ x,iNe x x=false:=fun x=>by simp only [ee];simp
 refine fB T23 [.t 4] ?_
 have fz:=k0
 refine Cq ?_
 refine Aq ?_
 refine za (ι:=List Int × List Int × Int) (fun p=>([(13,int p.2.2),(12,int (lenA es)),(0,.isl 1 es),(1,.isl 1 es)],[])) (fun p=>l=p.1++p.2.1∧p.2.2=p.1.length) (fun p=>p.2.1.length) ([],l,0) ⟨rfl,rfl⟩ ?_ ?_
 · exact (eS [] [])
 rintro ⟨d,r,i⟩ ⟨g1,gi⟩
 dsimp only at g1 gi ⊢
 cases r with
 | nil =>
  have L1:=zw g1
  try simp only [List.length] at L1
  have hc:iLt i (lenA es)=false:=xg e_iLt e_lenA (by omega)
  have fz:=hc
  refine Cq ?_
  refine Aq ?_
  refine zl ?_
  refine Aq ?_
  exact fV
 | cons x r =>
  have L1:=zw g1
  try simp only [List.length] at L1
  have hc:iLt i (lenA es)=true:=xf e_iLt e_lenA (by omega)
  have hat:=z7 e_atA hes g1 gi
  have hi2:iAdd .i64 i 1=((d++[x]).length:Int):=by rw [List.length_append];exact yq e_iAdd gi (by omega)
  have k2:=k1 x
  have fz:=And.intro hc (And.intro hat k2)
  refine Cq ?_
  refine Cr ?_
  refine Aq ?_
  refine zp (d++[x],r,iAdd .i64 i 1) ⟨by simp [g1],hi2⟩ (by simp) (eS [] [])
theorem P_Index (l:List Int) (v:Int) (hl:l.length<1048577):∃ j:Int,(0≤j↔v∈l)∧PCall EE 166 [.isl 1 (mapE int l),int v] (int j):=by
 obtain ⟨j,hj1,hj2⟩:∃ j:Int,(v∉l→j = -1)∧(∀ d r,l=d++v :: r→v∉d→j=d.length):=by
  by_cases h:v∈l
  · obtain ⟨d,r,rfl,hd⟩:=List.eq_append_cons_of_mem h
    refine ⟨d.length,fun hn=>absurd h hn,fun d2 r2 e hd2=>?_⟩
    have:∀ (d d2:List Int) (r r2:List Int),d++v :: r=d2++v :: r2→v∉d→v∉d2→d.length=d2.length:=by
     intro d
     induction d with
     | nil =>
      intro d2 r r2 e _ h2
      cases d2 with
      | nil=>rfl
      | cons x y=>simp at e;simp [e.1] at h2
     | cons x y ih =>
      intro d2 r r2 e h1 h2
      cases d2 with
      | nil=>simp at e;simp [e.1] at h1
      | cons x2 y2 =>
       simp at e h1 h2
       simp [ih y2 r r2 e.2 h1.2 h2.2]
    rw [this d d2 r r2 e hd hd2]
  exact ⟨-1,fun _=>rfl,fun d r e=>absurd (by rw [e];simp) h⟩
 refine ⟨j,?_,?_⟩
 · constructor
   · intro h;exact Classical.byContradiction fun hn=>by have:=hj1 hn;omega
   intro h
   obtain ⟨d,r,e,hd⟩:=List.eq_append_cons_of_mem h
   have:=hj2 d r e hd;omega
 have hcl:=zq l
 refine zt ?_;unhygienic intros
 generalize hes:mapE int l=es at *
 have hel:es.length=l.length:=by rw [← hes,zr]
 refine fB T166 [.t 4] ?_
 refine Aq ?_
 refine za (ι:=List Int × List Int × Int) (fun p=>([(8,int p.2.2),(7,int (lenA es)),(0,.isl 1 es),(1,int v)],[])) (fun p=>l=p.1++p.2.1∧p.2.2=p.1.length∧v∉p.1) (fun p=>p.2.1.length) ([],l,0) ⟨rfl,rfl,by simp⟩ ?_ ?_
 · exact (eS [] [])
 rintro ⟨d,r,i⟩ ⟨g1,gi,gv⟩
 dsimp only at g1 gi gv ⊢
 cases r with
 | nil =>
  have L1:=zw g1
  try simp only [List.length] at L1
  have hc:iLt i (lenA es)=false:=xg e_iLt e_lenA (by omega)
  rw [List.append_nil] at g1
  have hj:j = -1:=hj1 (by rw [g1];exact gv)
  have fz:=hc
  refine Cq ?_
  refine Aq ?_
  refine zl ?_
  refine Aq ?_
  exact fI (h:=hj.symm)
 | cons q r =>
  have L1:=zw g1
  try simp only [List.length] at L1
  have hc:iLt i (lenA es)=true:=xf e_iLt e_lenA (by omega)
  have hat:=z7 e_atA hes g1 gi
  have hi2:iAdd .i64 i 1=((d++[q]).length:Int):=by rw [List.length_append];exact yq e_iAdd gi (by omega)
  by_cases hq:v=q
  · have k1:iEq v q=true:=by simp only [ee];simpa using hq
    have hj:i=j:=by rw [hj2 d r (by rw [g1,hq]) gv];exact gi
    have fz:=And.intro hc (And.intro hat k1)
    refine Cq ?_
    refine Cr ?_
    refine Aq ?_
    refine zi ?_
    refine Aq ?_
    exact fI (h:=hj)
  have k1:iEq v q=false:=by simp only [ee];simpa using hq
  have gv2:v∉d++[q]:=by simp [gv,hq]
  have fz:=And.intro hc (And.intro hat k1)
  refine Cq ?_
  refine Cr ?_
  refine Aq ?_
  refine zp (d++[q],r,iAdd .i64 i 1) ⟨by simp [g1],hi2,gv2⟩ (by simp) (eS [] [])
theorem P_Contains (l:List Int) (v:Int) (hl:l.length<1048577):PCall EE 141 [.isl 1 (mapE int l),int v] (bool (decide (v∈l))):=by
 obtain ⟨j,hj,h1⟩:=P_Index l v hl
 have hcl:=zq l
 obtain ⟨R,hR⟩:∃ R,R=decide (v∈l):=⟨_,rfl⟩
 rw [← hR]
 refine zt ?_;unhygienic intros
 generalize mapE int l=es at *
 refine fB T141 [.t 4] ?_
 have hRe:iLe 0 j=R:=by simp only [ee];rw [hR];simp [hj]
 refine Aq ?_
 refine oPA h1 ?_
 refine Aq ?_
 exact fBo (h:=hRe)
def kws : List Bs:=[[97,108,108],[97,108,116],[97,110,100],[98,111,111,108],[98,121],[99,111,117,110,116],[102,97,108,115,101],[102,105,114,115,116],[105,102],[105,110,116],[108,97,99,107,115],[108,97,115,116],[109,97,116,99,104],[109,97,120],[109,105,110],[110,111,116],[111,114],[112,108,117,115],[113,117,101,114,121],[114,101,116,117,114,110],[115,101,113],[115,116,114,105,110,103],[115,117,109],[116,105,109,101],[116,114,117,101],[116,121,112,101],[119,104,101,114,101],[119,105,116,104,105,110]]
def kwS (ws:List Bs):Bs:=32 :: ws.flatMap fun w=>w++[32]
def kwB (s:Bs):Bool:=decide (s∈kws)
theorem cont_cons (b:UInt8) (l sub:Bs):Lib.contains (b :: l) sub=(sub.isPrefixOf (b :: l) || Lib.contains l sub):=by
 rw [Lib.contains,Lib.contains,Lib.index]
 cases h:sub.isPrefixOf (b :: l) with
 | true=>simp
 | false =>
  rcases Lib.index_spec l sub with ⟨h1,_⟩ | ⟨i,h1,_⟩
  · simp [h1]
  rw [h1]
  have:((i:Int) == -1)=false:=by rw [beq_eq_false_iff_ne];omega
  simp [this];omega
theorem cont_nil (c:UInt8) (t:Bs):Lib.contains [] (c :: t)=false:=rfl
theorem cont_one (c:UInt8):∀ s:Bs,Lib.contains s [c]=decide (c∈s)
 | []=>by rw [cont_nil];simp
 | b :: l=>by rw [cont_cons,cont_one c l,Bool.eq_iff_iff];simp [List.isPrefixOf]
theorem cont_skip (c:UInt8) (t:Bs):∀ w r:Bs,c∉w→Lib.contains (w++r) (c :: t)=Lib.contains r (c :: t)
 | [],r,_=>rfl
 | b :: l,r,h=>by
  rw [List.cons_append,cont_cons,cont_skip c t l r (fun e=>h (by simp [e]))]
  have:(c == b)=false:=by rw [beq_eq_false_iff_ne];rintro rfl;exact h (by simp)
  simp [List.isPrefixOf,this]
theorem pre_word (c:UInt8):∀ s w r:Bs,c∉s→c∉w→(s++[c]).isPrefixOf (w++c :: r)=decide (s=w)
 | [],[],r,_,_=>by simp [List.isPrefixOf]
 | [],b :: w,r,_,h=>by
  have:(c == b)=false:=by rw [beq_eq_false_iff_ne];rintro rfl;exact h (by simp)
  simp [List.isPrefixOf,this]
 | a :: s,[],r,h,_=>by
  have:(a == c)=false:=by rw [beq_eq_false_iff_ne];rintro rfl;exact h (by simp)
  simp [List.isPrefixOf,this]
 | a :: s,b :: w,r,h,h2=>by
  rw [List.cons_append,List.cons_append,List.isPrefixOf,pre_word c s w r (fun e=>h (by simp [e])) (fun e=>h2 (by simp [e])),Bool.eq_iff_iff]
  simp
theorem cont_words (s:Bs) (hs:32∉s):∀ ws:List Bs,(∀ w∈ws,(32:UInt8)∉w)→Lib.contains (kwS ws) (32 :: (s++[32]))=decide (s∈ws)
 | [],_=>by
  show Lib.contains [32] (32 :: (s++[32]))=_
  rw [cont_cons,cont_nil]
  cases s<;>simp [List.isPrefixOf]
 | w :: ws,h=>by
  have e:kwS (w :: ws)=32 :: (w++kwS ws):=by simp [kwS]
  rw [e,cont_cons,cont_skip 32 _ w _ (h w (by simp)),cont_words s hs ws (fun x hx=>h x (by simp [hx]))]
  have e2:(32 :: (s++[32])).isPrefixOf (32 :: (w++kwS ws))=decide (s=w):=by
   rw [List.isPrefixOf,kwS,pre_word 32 s w _ hs (h w (by simp))];simp
  rw [e2,Bool.eq_iff_iff];simp
theorem kws_sp : ∀ w∈kws,(32:UInt8)∉w:=by decide
theorem kw_prog (s:Bs):(decide (s≠[]) && (!Lib.contains s [32]) && Lib.contains (kwS kws) ([32]++s++[32]))=kwB s:=by
 rw [cont_one,kwB]
 by_cases hs:(32:UInt8)∈s
 · have:s∉kws:=fun h=>kws_sp s h hs
   simp [hs,this]
 have e:[32]++s++[32]=32 :: (s++[32]):=by simp
 rw [e,cont_words s hs kws kws_sp]
 by_cases h0:s=[]
 · subst h0;decide
 simp [h0,hs]
theorem kwS_eq : kwS kws=[32,97,108,108,32,97,108,116,32,97,110,100,32,98,111,111,108,32,98,121,32,99,111,117,110,116,32,102,97,108,115,101,32,102,105,114,115,116,32,105,102,32,105,110,116,32,108,97,99,107,115,32,108,97,115,116,32,109,97,116,99,104,32,109,97,120,32,109,105,110,32,110,111,116,32,111,114,32,112,108,117,115,32,113,117,101,114,121,32,114,101,116,117,114,110,32,115,101,113,32,115,116,114,105,110,103,32,115,117,109,32,116,105,109,101,32,116,114,117,101,32,116,121,112,101,32,119,104,101,114,101,32,119,105,116,104,105,110,32]:=by decide
def nmB (s:Bs):Bool:=nameB s && !kwB s
def nmE (s:Bs):Int:=if nmB s then 0 else 8
theorem Pat.exsL_nodes {l:List Pat} (h:∀ e∈l,e.exs=e.nodes.map Pat.cond):Pat.exsL l=(Pat.nodesL l).map Pat.cond:=by
 induction l with
 | nil=>simp [Pat.exsL,Pat.nodesL]
 | cons e r ih=>rw [Pat.exsL,Pat.nodesL,h e (by simp),ih fun e he=>h e (by simp [he]),List.map_append]
theorem Pat.exs_nodes : ∀ p:Pat,p.exs=p.nodes.map Pat.cond:=Pat.ind fun o a t v s n c h=>by
 rw [Pat.exs,Pat.nodes,List.map_cons,Pat.exsL_nodes h];rfl
theorem Pat.Sm_iff (p:Pat):p.Sm↔p.nodes.length≤1048576∧∀ q∈p.nodes,q.cond.Sm:=by
 rw [Pat.Sm,Pat.nodes_len,Pat.exs_nodes];simp
end Go.Am
end
