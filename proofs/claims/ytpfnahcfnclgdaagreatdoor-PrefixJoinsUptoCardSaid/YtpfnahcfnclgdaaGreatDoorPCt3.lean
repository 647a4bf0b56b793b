/- Contracts of the program's functions. -/
import Derived.Test.YtpfnahcfnclgdaaGreatDoorPCt1
import Derived.Test.YtpfnahcfnclgdaaGreatDoorProg
import Derived.Test.YtpfnahcfnclgdaaGreatDoorRows
section
set_option maxHeartbeats 16000000
set_option maxRecDepth 20000
namespace Go.Am
open Go.Proofs Go.ChangeShapes Go.WideShapes Go.ChangeAt Go.RowKit
theorem cellsE : Tryz.prog.cellsOf 27=8:=by kernel_rfl
theorem cellsP : Tryz.prog.cellsOf 29=14:=by kernel_rfl
theorem aggE : ue EE.P 27=true:=by kernel_rfl
theorem aggP : ue EE.P 29=true:=by kernel_rfl
theorem rdEx : ∀ (k:Nat) (x:AV),SizeOf.sizeOf x≤k→∀ n,El EE.P (Cl EE.P n) 27 x→∃ e:Ex,x=e.enc:=by
 intro k
 induction k with
 | zero=>intro x hk n h;cases x<;>simp at hk<;>omega
 | succ k ih =>
  intro x hk n h
  obtain ⟨cs,rfl,g⟩:=h.agg aggE
  obtain ⟨m,a,r,rfl,ha,b,r,rfl,hb,c,r,rfl,hc,d,r,rfl,hd,e,r,rfl,he,f,r,rfl,hf,rfl⟩:=g.struct Tryz.underlying27
  obtain ⟨i1,rfl,_⟩:=ha.int Tryz.underlying3
  obtain ⟨m2,es,rfl,hl,hes⟩:=hb.slice Tryz.underlying23
  obtain ⟨i3,rfl,_⟩:=hc.int Tryz.underlying3
  obtain ⟨i4,rfl,_⟩:=hd.int Tryz.underlying3
  obtain ⟨i5,rfl,_⟩:=he.int Tryz.underlying3
  obtain ⟨m3,a,r,rfl,ha,b,r,rfl,hb,c,r,rfl,hc,rfl⟩:=hf.struct Tryz.underlying25
  obtain ⟨i6,rfl,_⟩:=ha.int Tryz.underlying3
  obtain ⟨i7,rfl,_⟩:=hb.int Tryz.underlying3
  obtain ⟨s,rfl,_⟩:=hc.str Tryz.underlying9
  obtain ⟨l,rfl,_⟩:=list_enc (enc:=Ex.enc) (ok:=fun _=>True) fun x hx=>by
   have h1:=List.sizeOf_lt_of_mem hx
   obtain ⟨q,hq⟩:=ih x (by simp only [List.cons_append,List.nil_append,AV.agg.sizeOf_spec,List.cons.sizeOf_spec,AV.isl.sizeOf_spec] at hk;omega) m2 (hes x hx)
   exact ⟨q,hq,trivial⟩
  exact ⟨.mk i1 l i3 i4 i5 ⟨i6,i7,s⟩,by rw [Ex.enc_mk,cellsE];rfl⟩
theorem rdPat : ∀ (k:Nat) (x:AV),SizeOf.sizeOf x≤k→∀ n,El EE.P (Cl EE.P n) 29 x→∃ p:Pat,x=p.enc:=by
 intro k
 induction k with
 | zero=>intro x hk n h;cases x<;>simp at hk<;>omega
 | succ k ih =>
  intro x hk n h
  obtain ⟨cs,rfl,g⟩:=h.agg aggP
  obtain ⟨m,a,r,rfl,ha,b,r,rfl,hb,c,r,rfl,hc,d,r,rfl,hd,e,r,rfl,he,f,r,rfl,hf,g2,r,rfl,hg,rfl⟩:=g.struct Tryz.underlying29
  obtain ⟨i1,rfl,_⟩:=ha.int Tryz.underlying3
  obtain ⟨m2,es,rfl,hl,hes⟩:=hb.slice Tryz.underlying22
  obtain ⟨i3,rfl,_⟩:=hc.int Tryz.underlying3
  obtain ⟨i4,rfl,_⟩:=hd.int Tryz.underlying3
  obtain ⟨i5,rfl,_⟩:=he.int Tryz.underlying3
  obtain ⟨i6,rfl,_⟩:=hf.int Tryz.underlying3
  obtain ⟨ce,hce⟩:=rdEx _ (.agg g2) (Nat.le_refl _) m (by unfold El;rw [aggE];exact ⟨g2,rfl,hg⟩)
  obtain ⟨co,ca,cv,cf,ck,cx⟩:=ce
  rw [Ex.enc_mk] at hce
  injection hce with hce
  subst hce
  obtain ⟨l,rfl,_⟩:=list_enc (enc:=Pat.enc) (ok:=fun _=>True) fun x hx=>by
   have h1:=List.sizeOf_lt_of_mem hx
   obtain ⟨q,hq⟩:=ih x (by simp only [List.cons_append,List.nil_append,AV.agg.sizeOf_spec,List.cons.sizeOf_spec,AV.isl.sizeOf_spec] at hk;omega) m2 (hes x hx)
   exact ⟨q,hq,trivial⟩
  exact ⟨.mk i1 l i3 i4 i5 i6 (.mk co ca cv cf ck cx),by rw [Pat.enc_mk,cellsP];rfl⟩
theorem Ex.cntL_bulk {l:List Ex} (h:∀ e∈l,e.cnt≤e.enc.bulk):Ex.cntL l≤AV.bulkL (zy Ex.enc l):=by
 induction l with
 | nil=>simp [Ex.cntL]
 | cons e r ih =>
  have h1:=h e (by simp)
  have h2:=ih fun e he=>h e (by simp [he])
  rw [zu] at h2 ⊢
  simp only [List.map_cons,AV.bulkL,Ex.cntL];omega
theorem Ex.cnt_bulk : ∀ e:Ex,e.cnt≤e.enc.bulk:=Ex.ind fun o a v f k x h=>by
 have:=Ex.cntL_bulk h
 rw [Ex.enc_mk]
 simp only [Ex.cnt,AV.bulk,AV.bulkL];omega
theorem Pat.cntL_bulk {l:List Pat} (h:∀ e∈l,e.cnt≤e.enc.bulk∧∀ c∈e.exs,c.cnt≤e.enc.bulk):Pat.cntL l≤AV.bulkL (zy Pat.enc l)∧∀ c∈Pat.exsL l,c.cnt≤AV.bulkL (zy Pat.enc l):=by
 induction l with
 | nil=>simp [Pat.cntL,Pat.exsL]
 | cons e r ih =>
  have h1:=h e (by simp)
  have h2:=ih fun e he=>h e (by simp [he])
  rw [zu] at h2 ⊢
  simp only [List.map_cons,AV.bulkL,Pat.cntL,Pat.exsL,List.mem_append]
  refine ⟨by omega,fun c hc=>?_⟩
  rcases hc with hc | hc
  · have:=h1.2 c hc;omega
  have:=h2.2 c hc;omega
theorem Pat.cnt_bulk : ∀ e:Pat,e.cnt≤e.enc.bulk∧∀ c∈e.exs,c.cnt≤e.enc.bulk:=Pat.ind fun o a t v s n c h=>by
 have h1:=Pat.cntL_bulk h
 obtain ⟨co,ca,cv,cf,ck,cx⟩:=c
 have h2:=Ex.cnt_bulk (.mk co ca cv cf ck cx)
 rw [Ex.enc_mk] at h2
 rw [Pat.enc_mk]
 simp only [Pat.cnt,Pat.exs,List.mem_cons,AV.bulk,AV.bulkL] at h2 ⊢
 refine ⟨by omega,fun c hc=>?_⟩
 rcases hc with rfl | hc
 · omega
 have:=h1.2 c hc;omega
theorem Pat.sm_of {p:Pat} (h:p.enc.bulk≤1048576):p.Sm:=by
 have:=Pat.cnt_bulk p
 exact ⟨by omega,fun c hc=>by have:=this.2 c hc;unfold Ex.Sm;omega⟩
theorem Ex.sm_of {p:Ex} (h:p.enc.bulk≤1048576):p.Sm:=by
 have:=Ex.cnt_bulk p
 unfold Ex.Sm;omega
theorem bulk_upto {H:Type}:(∀ d:DataW H,Proofs.YtpfnahcfnclgdaaGreatDoor.Rows.uptoBulk d=xP d)∧(∀ d:List (DataW H),Proofs.YtpfnahcfnclgdaaGreatDoor.Rows.uptoBulkAll d=dBulkAll d):=by
 have:∀ k:Nat,(∀ d:DataW H,SizeOf.sizeOf d≤k→Proofs.YtpfnahcfnclgdaaGreatDoor.Rows.uptoBulk d=xP d)∧(∀ d:List (DataW H),SizeOf.sizeOf d≤k→Proofs.YtpfnahcfnclgdaaGreatDoor.Rows.uptoBulkAll d=dBulkAll d)∧(∀ d:List (Lit × DataW H),SizeOf.sizeOf d≤k→Proofs.YtpfnahcfnclgdaaGreatDoor.Rows.uptoBulkEntries d=dBulkEntries d)∧(∀ d:Lit × DataW H,SizeOf.sizeOf d≤k→Proofs.YtpfnahcfnclgdaaGreatDoor.Rows.uptoBulkEntry d=dBulkEntry d):=by
  intro k
  induction k with
  | zero =>
   refine ⟨fun d h=>?_,fun d h=>?_,fun d h=>?_,fun d h=>?_⟩
   · cases d<;>simp at h<;>omega
   · cases d<;>simp at h<;>omega
   · cases d<;>simp at h<;>omega
   obtain ⟨a,b⟩:=d;simp at h<;>omega
  | succ k ih =>
   obtain ⟨i1,i2,i3,i4⟩:=ih
   refine ⟨fun d h=>?_,fun d h=>?_,fun d h=>?_,fun d h=>?_⟩
   · cases d with
     | lit l=>cases l<;>simp [Proofs.YtpfnahcfnclgdaaGreatDoor.Rows.uptoBulk,xP]
     | nil=>simp [Proofs.YtpfnahcfnclgdaaGreatDoor.Rows.uptoBulk,xP]
     | ptr d=>simp only [Proofs.YtpfnahcfnclgdaaGreatDoor.Rows.uptoBulk,xP];rw [i1 d (by simp at h;omega)]
     | slice a b=>simp only [Proofs.YtpfnahcfnclgdaaGreatDoor.Rows.uptoBulk,xP];rw [i2 a (by simp at h;omega),i2 b (by simp at h;omega)]
     | agg a=>simp only [Proofs.YtpfnahcfnclgdaaGreatDoor.Rows.uptoBulk,xP];rw [i2 a (by simp at h;omega)]
     | iface t d=>simp only [Proofs.YtpfnahcfnclgdaaGreatDoor.Rows.uptoBulk,xP];rw [i1 d (by simp at h;omega)]
     | map a=>simp only [Proofs.YtpfnahcfnclgdaaGreatDoor.Rows.uptoBulk,xP];rw [i3 a (by simp at h;omega)]
     | held a=>simp only [Proofs.YtpfnahcfnclgdaaGreatDoor.Rows.uptoBulk,xP]
   · cases d with
     | nil=>simp only [Proofs.YtpfnahcfnclgdaaGreatDoor.Rows.uptoBulkAll,dBulkAll]
     | cons x r=>simp only [Proofs.YtpfnahcfnclgdaaGreatDoor.Rows.uptoBulkAll,dBulkAll];rw [i1 x (by simp at h;omega),i2 r (by simp at h;omega)]
   · cases d with
     | nil=>simp only [Proofs.YtpfnahcfnclgdaaGreatDoor.Rows.uptoBulkEntries,dBulkEntries]
     | cons x r=>simp only [Proofs.YtpfnahcfnclgdaaGreatDoor.Rows.uptoBulkEntries,dBulkEntries];rw [i4 x (by simp at h;omega),i3 r (by simp at h;omega)]
   obtain ⟨l,b⟩:=d
   cases l<;>(simp only [Proofs.YtpfnahcfnclgdaaGreatDoor.Rows.uptoBulkEntry,dBulkEntry];rw [i1 b (by simp at h;omega)])
 exact ⟨fun d=>(this _).1 d (Nat.le_refl _),fun d=>(this _).2.1 d (Nat.le_refl _)⟩
theorem own_none : ownKnob Tryz.prog.godebug=none:=by kernel_rfl
theorem kidsP : Kids EE.P (· < EE.P.types.size):=kids_rows (by kernel_rfl) (by kernel_rfl)
theorem fullP : ∀ t e,t<EE.P.types.size→EE.P.underlying t=some (.slice e)→0<EE.P.cellsOf e:=slices_full_of EE.P (by kernel_rfl)
end Go.Am
end
noncomputable section
set_option maxHeartbeats 16000000
set_option maxRecDepth 100000
namespace Go.Am
open Go.Proofs
theorem P_ref09_Nodes : ∀ p:Pat,p.Sm→PCall EE 39 [p.enc] (.isl 14 (zy Pat.enc p.nodes)):=by
 refine Pat.ind ?_
 intro o a t v s n c ih hs
 obtain ⟨pp,hpp⟩:∃ pp,pp=Pat.mk o a t v s n c:=⟨_,rfl⟩
 have hpe:pp.enc=(Pat.mk o a t v s n c).enc:=by rw [hpp]
 obtain ⟨co,ca,cv,cf,ck,xk,xn,xt⟩:=c
 have hlen:=hs.len
 have hih:∀ q∈a,PCall EE 39 [q.enc] (.isl 14 (zy Pat.enc q.nodes)):=fun q hq=>ih q hq (hs.arg hq)
 have hcl:=Pat.closedI a
 have hce:=Ex.closedI ca
 have hcnt:Pat.cntL a≤1048575:=by have hs:=hs.1;simp only [Pat.cnt] at hs;omega
 simp only [Pat.nodes]
 rw [← hpp]
 rw [Pat.enc_mk] at hpe
 clear hpp
 have hpc:=Pat.closed pp
 rw [hpe] at hpc ⊢
 refine zo ?_;unhygienic intros
 generalize hes:zy Pat.enc a=es at *
 generalize zy Ex.enc ca=ec at *
 have hel:es.length=a.length:=by rw [← hes,zp]
 have hone:∀ x,AV.closedL [x]=x.closed:=by simp [AV.closedL]
 have hw0:[AV.agg [int o,.isl 14 es,int t,int v,int s,int n,int co,.isl 8 ec,int cv,int cf,int ck,int xk,int xn,str xt]]=zy Pat.enc (pp :: Pat.nodesL []):=by rw [zu,Pat.nodesL,List.map_cons,hpe];rfl
 have hcw0:AV.closedL [AV.agg [int o,.isl 14 es,int t,int v,int s,int n,int co,.isl 8 ec,int cv,int cf,int ck,int xk,int xn,str xt]]=true:=by rw [hone];exact hpc
 refine fB T39 [.t 2] ?_
 refine Aq ?_
 refine ze (ι:=List Pat × List Pat × Int × Nat × List AV) (fun p=>([(3,.sl 1 14 0 p.2.2.2.1),(4,int p.2.2.1),(1,.ptr 0 0)],[.cells [int o,.isl 14 es,int t,int v,int s,int n,int co,.isl 8 ec,int cv,int cf,int ck,int xk,int xn,str xt],.arr 14 p.2.2.2.2])) (fun p=>a=p.1++p.2.1∧p.2.2.1=p.1.length∧p.2.2.2.1=p.2.2.2.2.length∧p.2.2.2.2=zy Pat.enc (pp :: Pat.nodesL p.1)) (fun p=>p.2.1.length) ([],a,0,1,[AV.agg [int o,.isl 14 es,int t,int v,int s,int n,int co,.isl 8 ec,int cv,int cf,int ck,int xk,int xn,str xt]]) ⟨rfl,rfl,rfl,hw0⟩ ?_ ?_
 · exact (eS [.to 0,.to 1] [some 0,some 1])
 rintro ⟨d,r,i,m,w⟩ ⟨g1,gi,gm,gw⟩
 dsimp only at g1 gi gm gw ⊢
 have hcw:AV.closedL w=true:=by rw [gw];exact Pat.closedL _
 have hm:m=Pat.cntL d+1:=by rw [gm,gw,zp,List.length_cons,Pat.nodesL_len']
 cases r with
 | nil =>
  have L1:=lS g1
  have hc:iLt i (lenA es)=false:=xR e_iLt e_lenA (by omega)
  rw [List.append_nil] at g1
  rw [g1,← gw]
  have fz:=hc
  refine Cq ?_
  refine Aq ?_
  refine zk ?_
  refine Aq ?_
  refine zP rfl rfl ?_
  exact ⟨[.gone,.isl 14 (w)],⟨trivial,⟨_,rfl,(zw _ hcw).symm⟩,trivial⟩,.of (xm rfl (by omega))⟩
 | cons q r =>
  have L1:=lS g1
  have hc:iLt i (lenA es)=true:=xU e_iLt e_lenA (by omega)
  have hat:=yX e_atA hes g1 gi
  have hq:=hih q (by rw [g1];simp)
  have hqc:=Pat.closed q
  rw [g1,Pat.cntL_append,Pat.cntL] at hcnt
  have hfit:=fitPat q.nodes
  have hcq:=Pat.closedL q.nodes
  have hql:(zy Pat.enc q.nodes).length=q.cnt:=by rw [zp,Pat.nodes_len]
  obtain ⟨qO,qA,qT,qV,qS,qN,qCo,qCa,qCv,qCf,qCk,qXk,qXn,qXt,hx⟩:=Pat.form q
  rw [hx] at hq hat hqc
  have hw2:catA (dropA w 0) (zy Pat.enc q.nodes)=zy Pat.enc (pp :: Pat.nodesL (d++[q])):=by
   simp only [ee];rw [gw,List.drop_zero,zu,zu,zu,← List.map_append,Pat.nodesL_append];simp [Pat.nodesL]
  generalize zy Pat.enc q.nodes=eq at *
  have hi2:iAdd .i64 i 1=((d++[q]).length:Int):=by rw [List.length_append];exact yh e_iAdd gi (by omega)
  have hm2:addN m (lenN eq)=(catA (dropA w 0) eq).length:=by simp only [ee];simp [gm]
  have hcw2:AV.closedL (catA (dropA w 0) eq)=true:=by rw [hw2];exact Pat.closedL _
  have fz:=And.intro hc hat
  refine Cq ?_
  refine Cr ?_
  refine oPA hq ?_
  refine Aq ?_
  refine zm (d++[q],r,iAdd .i64 i 1,addN m (lenN eq),catA (dropA w 0) eq) ⟨by simp [g1],hi2,hm2,hw2⟩ (by simp) (eS [.to 0,.gone,.to 1] [some 0,some 2])
theorem P_Index (l:List Int) (v:Int) (hl:l.length<1048577):∃ j:Int,(0≤j↔v∈l)∧PCall EE 171 [.isl 1 (zy int l),int v] (int j):=by
 obtain ⟨j,hj1,hj2⟩:∃ j:Int,(v∉l→j = -1)∧(∀ d r,l=d++v :: r→v∉d→j=d.length):=by
  by_cases h:v∈l
  · obtain ⟨d,r,rfl,hd⟩:=List.eq_append_cons_of_mem h
    refine ⟨d.length,fun hn=>absurd h hn,fun d2 r2 e hd2=>?_⟩
    have:∀ (d d2:List Int) (r r2:List Int),d++v :: r=d2++v :: r2→v∉d→v∉d2→d.length=d2.length:=by
     intro d
     induction d with
     | nil =>
      intro d2 r r2 e _ h2
      cases d2 with
      | nil=>rfl
      | cons x y=>simp at e;simp [e.1] at h2
     | cons x y ih =>
      intro d2 r r2 e h1 h2
      cases d2 with
      | nil=>simp at e;simp [e.1] at h1
      | cons x2 y2 =>
       simp at e h1 h2
       simp [ih y2 r r2 e.2 h1.2 h2.2]
    rw [this d d2 r r2 e hd hd2]
  exact ⟨-1,fun _=>rfl,fun d r e=>absurd (by rw [e];simp) h⟩
 refine ⟨j,?_,?_⟩
 · constructor
   · intro h;exact Classical.byContradiction fun hn=>by have:=hj1 hn;omega
   intro h
   obtain ⟨d,r,e,hd⟩:=List.eq_append_cons_of_mem h
   have:=hj2 d r e hd;omega
 have hcl:=zQ l
 refine zo ?_;unhygienic intros
 generalize hes:zy int l=es at *
 have hel:es.length=l.length:=by rw [← hes,zp]
 refine fB T171 [.t 4] ?_
 refine Aq ?_
 refine ze (ι:=List Int × List Int × Int) (fun p=>([(8,int p.2.2),(7,int (lenA es)),(0,.isl 1 es),(1,int v)],[])) (fun p=>l=p.1++p.2.1∧p.2.2=p.1.length∧v∉p.1) (fun p=>p.2.1.length) ([],l,0) ⟨rfl,rfl,by simp⟩ ?_ ?_
 · exact (eS [] [])
 rintro ⟨d,r,i⟩ ⟨g1,gi,gv⟩
 dsimp only at g1 gi gv ⊢
 cases r with
 | nil =>
  have L1:=lS g1
  have hc:iLt i (lenA es)=false:=xR e_iLt e_lenA (by omega)
  rw [List.append_nil] at g1
  have hj:j = -1:=hj1 (by rw [g1];exact gv)
  have fz:=hc
  refine Cq ?_
  refine Aq ?_
  refine zk ?_
  refine Aq ?_
  exact fI (h:=hj.symm)
 | cons q r =>
  have L1:=lS g1
  have hc:iLt i (lenA es)=true:=xU e_iLt e_lenA (by omega)
  have hat:=yX e_atA hes g1 gi
  have hi2:iAdd .i64 i 1=((d++[q]).length:Int):=by rw [List.length_append];exact yh e_iAdd gi (by omega)
  by_cases hq:v=q
  · have k1:iEq v q=true:=by simp only [ee];simpa using hq
    have hj:i=j:=by rw [hj2 d r (by rw [g1,hq]) gv];exact gi
    have fz:=And.intro hc (And.intro hat k1)
    refine Cq ?_
    refine Cr ?_
    refine Aq ?_
    refine zf ?_
    refine Aq ?_
    exact fI (h:=hj)
  have k1:iEq v q=false:=by simp only [ee];simpa using hq
  have gv2:v∉d++[q]:=by simp [gv,hq]
  have fz:=And.intro hc (And.intro hat k1)
  refine Cq ?_
  refine Cr ?_
  refine Aq ?_
  refine zm (d++[q],r,iAdd .i64 i 1) ⟨by simp [g1],hi2,gv2⟩ (by simp) (eS [] [])
theorem P_Contains (l:List Int) (v:Int) (hl:l.length<1048577):PCall EE 151 [.isl 1 (zy int l),int v] (bool (decide (v∈l))):=by
 obtain ⟨j,hj,h1⟩:=P_Index l v hl
 have hcl:=zQ l
 obtain ⟨R,hR⟩:∃ R,R=decide (v∈l):=⟨_,rfl⟩
 rw [← hR]
 refine zo ?_;unhygienic intros
 generalize zy int l=es at *
 refine fB T151 [.t 4] ?_
 have hRe:iLe 0 j=R:=by simp only [ee];rw [hR];simp [hj]
 refine Aq ?_
 refine oPA h1 ?_
 refine Aq ?_
 exact fBo (h:=hRe)
end Go.Am
end
