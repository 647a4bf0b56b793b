/- Contracts of the program's functions. -/
import Derived.Test.YtpfnahcfnclgdaaGreatDoorProg
import Derived.Test.YtpfnahcfnclgdaaGreatDoorPCt13
noncomputable section
set_option maxHeartbeats 16000000
set_option maxRecDepth 100000
namespace Go.Am
open Go.Proofs
theorem rowsC_app (l:List Pat):∀ (a b:List Pat) (i:Nat),vl l i (a++b)=vl l i a++vl l (i+a.length) b
 | [],b,i=>rfl
 | p :: a,b,i=>by rw [List.cons_append,vl,vl,rowsC_app l a b (i+1),List.cons_append,List.length_cons,show i+(a.length+1)=i+1+a.length by omega]
theorem stE_closedL (l:List (List Gd)):AV.closedL (zy stE l)=true:=by
 have:=stE_closedI l
 simpa only [AV.closed] using this
theorem P_states (l:List Pat):PCall EE 131 [.isl 14 (zy Pat.enc l)] (.fn 158 [.iptr [.isl 14 (zy Pat.enc l)]]):=by
 have kl:=Pat.closedI l
 generalize zy Pat.enc l=pl at *
 have kc:AV.closedL [.isl 14 pl]=true:=zg kl
 refine zo ?_;unhygienic intros
 refine fB T131 [.t 2] ?_
 refine Aq ?_
 refine zP rfl rfl ?_
 exact ⟨[.icells [.isl 14 pl]],⟨⟨_,rfl,(zw _ kc).symm⟩,trivial⟩,.refl _⟩
theorem P_compiled (G:Pat→Prop) (hG:RsSet G) {p:Pat} (hp:G p) (hc:p.chk=0) (l:List Pat) (hr:p.res=some l) (hne:l≠[]) (hl:StOk l) (ha:∀ q∈l,ActT q) (hm:(sH p l).edges.length≤2048) :
 PCall EE 95 [p.enc] (.tup [(sH p l).enc,.isl 14 (zy Pat.enc l),int 0]):=by
 have pr:=P_ResidualsS G hG hp hc
 rw [hr,resR] at pr
 have pn:=P_pattern_Count p (hG.ok p hp).sm
 rw [hc] at pn
 have hq:=X_states l hl
 have ps:=P_states l
 have hcl:=Pat.closed p
 have kl:=Pat.closedI l
 have hll:=zp Pat.enc l
 have hfew:=hl.few
 have hen:(sH p l).enc=.agg [int p.nVars,int p.nScs,.isl 1 (zy stE (l.map Pat.act)),.isl 17 (zy Ed.enc (vl l 0 l).flatten)]:=rfl
 rw [hen]
 have hm2:(vl l 0 l).flatten.length≤2048:=hm
 have hsl:=stO_len l l 0
 obtain ⟨pl,hP1⟩:∃ pl,pl=zy Pat.enc l:=⟨_,rfl⟩
 rw [← hP1] at pr ps hq kl hll ⊢
 generalize p.nVars=nV at *
 generalize p.nScs=nS at *
 have kcs:AV.closedL [.iptr [.isl 14 pl]]=true:=by rw [AV.closedL,AV.closed,zg kl];rfl
 obtain ⟨pO,pA,pT,pV,pS,pN,pCo,pCa,pCv,pCf,pCk,pXk,pXn,pXt,hx⟩:=Pat.form p
 rw [hx] at hcl pr pn ⊢
 have kcl:AV.closedL [int pO,.isl 14 pA,int pT,int pV,int pS,int pN,int pCo,.isl 8 pCa,int pCv,int pCf,int pCk,int pXk,int pXn,str pXt]=true:=by simpa only [AV.closed] using hcl
 refine zo ?_;unhygienic intros
 have k0:iNe 0 0=false:=by simp only [ee];rfl
 refine fB T95 [.cell 2 4 true,.cell 3 1 false,.cell 4 1 false] ?_
 refine Aq ?_
 refine zh (args:=[.agg [int pO,.isl 14 pA,int pT,int pV,int pS,int pN,int pCo,.isl 8 pCa,int pCv,int pCf,int pCk,int pXk,int pXn,str pXt]]) rfl rfl rfl pr (zg hcl) ?_
 have fz:=k0
 refine Cq ?_
 refine goC 60 ?_
 refine zh (args:=[.agg [int pO,.isl 14 pA,int pT,int pV,int pS,int pN,int pCo,.isl 8 pCa,int pCv,int pCf,int pCk,int pXk,int pXn,str pXt]]) rfl rfl rfl pn (zg hcl) ?_
 refine Cq ?_
 refine goC 60 ?_
 refine zh (args:=[.isl 14 pl]) rfl rfl rfl ps (zg kl) ?_
 refine Aq ?_
 have krl:(AV.fn 158 [.iptr [.isl 14 pl]]).closed=true:=by rw [AV.closed,kcs]
 refine AWP.ent (yz (F':=[(34,.fn 158 [.iptr [.isl 14 pl]]),(7,.ptr 5 0),(5,.ptr 4 0),(4,.ptr 3 0),(3,.ptr 2 0),(2,.ptr 1 0),(1,.ptr 0 0)]) ⟨.refl _,.refl _,.refl _,.refl _,.refl _,.refl _,.refl _,trivial⟩) ?_
 refine on_rfunW (ι:=List (List Gd) × List Ed) 6 (fun S=>[.cells [int pO,.isl 14 pA,int pT,int pV,int pS,int pN,int pCo,.isl 8 pCa,int pCv,int pCf,int pCk,int pXk,int pXn,str pXt],.cells [int 0,int 0,.val (.slice none 0 0),.val (.slice none 0 0)],.cells [.val (.slice none 0 0)],.cells [int 0],.cells [.isl 14 pl],.cells [int nV,int nS,.sl 7 1 0 S.1.length,.sl 8 17 0 S.2.length]]) (fun S=>[.arr 1 (zy stE S.1),.arr 17 (zy Ed.enc S.2)])
  (fun j S=>S.1=(l.take j).map Pat.act∧S.2=(vl l 0 (l.take j)).flatten) ([],[]) rfl (fun _=>rfl) rfl hq kcs (stO_closed l l 0) (stO_two l l 0)
  ⟨rfl,rfl⟩ ?_ (fun j args hj S hS=>?_) (fun h=>?_) (fun S hS=>?_)
 · dsimp only [List.cons_append,List.nil_append]
   rw [show zy stE []=[] by rw [zu];rfl,show zy Ed.enc []=[] by rw [zu];rfl]
   exact xx [.to 0,.to 1,.to 2,.to 3,.to 4,.to 5,.to 6] [some 0,some 1,some 2,some 3,some 4,some 5,some 6,none,none] rfl ⟨rfl,rfl,rfl,rfl,rfl,rfl,rfl,trivial⟩ (by simp) (by simp) ⟨⟨by simp,rfl⟩,⟨by simp,rfl⟩,⟨by simp,rfl⟩,⟨by simp,rfl⟩,⟨by simp,rfl⟩,⟨by simp,rfl⟩,⟨by simp,rfl⟩,trivial⟩ ⟨zx (b:=0) rfl rfl rfl (by rw [zw _ kcl];exact WkL.refl _ _),zx (b:=1) rfl rfl rfl ⟨.refl _,.refl _,.refl _,.refl _,trivial⟩,zx (b:=2) rfl rfl rfl ⟨.refl _,trivial⟩,zx (b:=3) rfl rfl rfl ⟨.refl _,trivial⟩,zx (b:=4) rfl rfl rfl ⟨.cl kl,trivial⟩,zx (b:=5) rfl rfl rfl ⟨.refl _,.refl _,.nilS _ _ _ (by simp),.nilS _ _ _ (by simp),trivial⟩,.some 6 _ _ rfl rfl rfl (.loop _ _ _ _ _ _ _ _ ⟨.cl krl,.refl _,.refl _,.refl _,.refl _,.refl _,.refl _,trivial⟩),.none _ rfl,.none _ rfl,trivial⟩
 · obtain ⟨hS1,hS2⟩:=hS
   have hjl:j<l.length:=by have:=(List.getElem?_eq_some_iff.1 hj).1;omega
   obtain ⟨q,hqj⟩:∃ q,l[j]? = some q:=⟨_,List.getElem?_eq_getElem hjl⟩
   have hrow:=stO_at l l 0 j q hqj
   rw [hj,Nat.zero_add] at hrow
   obtain rfl:=Option.some.inj hrow
   have hqm:=List.mem_of_getElem? hqj
   have pg:=P_Guards (hl.ok q hqm).sm (hl.chk q hqm) (ha q hqm)
   have htk:l.take (j+1)=l.take j++[q]:=by rw [List.take_add_one,hqj];rfl
   have hn1:(l.take (j+1)).map Pat.act=S.1++[q.act]:=by rw [htk,List.map_append,hS1];rfl
   have hn2:(vl l 0 (l.take (j+1))).flatten=S.2++vH l j q:=by
    rw [htk,rowsC_app,List.flatten_append,hS2]
    rw [Nat.zero_add,List.length_take,Nat.min_eq_left (by omega)]
    simp [vl]
   have hbd:(S.2++vH l j q).length≤2048:=by
    rw [← hn2]
    have:vl l 0 l=vl l 0 (l.take (j+1))++vl l (0+(l.take (j+1)).length) (l.drop (j+1)):=by rw [← rowsC_app,List.take_append_drop]
    rw [this,List.flatten_append,List.length_append] at hm2
    omega
   have hb1:S.1.length≤256:=by rw [hS1,List.length_map,List.length_take];omega
   obtain ⟨ss,es⟩:=S
   dsimp only at hS1 hS2 hn1 hn2 hbd hb1
   have hat:atA pl ((j:Nat):Int)=q.enc:=by
    simp only [ee]
    rw [hP1,zu]
    simp [List.getD_eq_getElem?_getD,List.getElem?_map,hqj]
   have kq:=Pat.closed q
   have kg:=Gd.closedI q.act
   have ksl:=stE_closedL ss
   have kel:=Ed.closedL' es
   have ksl2:=stE_closedL (ss++[q.act])
   have kel2:=Ed.closedL' (es++vH l j q)
   have kro:=Ed.closedI (vH l j q)
   have hs2:zy stE (ss++[q.act])=zy stE ss++[.agg [.isl 11 (zy Gd.enc q.act)]]:=by rw [zu,zu,List.map_append,List.map_singleton,stE_eq]
   have he2:zy Ed.enc (es++vH l j q)=zy Ed.enc es++zy Ed.enc (vH l j q):=by rw [zu,zu,zu,List.map_append]
   have hrn:=zp Ed.enc (vH l j q)
   have fro:=fit_E (vH l j q)
   have hl2:(es++vH l j q).length=es.length+(vH l j q).length:=List.length_append
   have hss:=zp stE ss
   have hse:=zp Ed.enc es
   have hjp:(j:Int)<pl.length:=by omega
   have hj0:(0:Int)≤j:=by omega
   show zl _ _ _ _ _ _ (vM _ _ [int ((j:Nat):Int),.isl 17 (zy Ed.enc (vH l j q))]) _
   obtain ⟨sl,hE1⟩:∃ x,x=zy stE ss:=⟨_,rfl⟩
   obtain ⟨el,hE2⟩:∃ x,x=zy Ed.enc es:=⟨_,rfl⟩
   obtain ⟨sl2,hE3⟩:∃ x,x=zy stE (ss++[q.act]):=⟨_,rfl⟩
   obtain ⟨el2,hE4⟩:∃ x,x=zy Ed.enc (es++vH l j q):=⟨_,rfl⟩
   obtain ⟨ro,hE5⟩:∃ x,x=zy Ed.enc (vH l j q):=⟨_,rfl⟩
   obtain ⟨n,hn⟩:∃ n,n=ss.length:=⟨_,rfl⟩
   obtain ⟨m,hm4⟩:∃ n,n=es.length:=⟨_,rfl⟩
   obtain ⟨n1,hn5⟩:∃ n,n=(ss++[q.act]).length:=⟨_,rfl⟩
   obtain ⟨m1,hm5⟩:∃ n,n=(es++vH l j q).length:=⟨_,rfl⟩
   dsimp only
   rw [← hE1,← hE2,← hE5,← hn,← hm4]
   rw [← hE1] at ksl hs2 hss
   rw [← hE2] at kel he2 hse
   rw [← hE3] at hs2 ksl2
   rw [← hE4] at he2 kel2
   rw [← hE5] at he2 kro hrn fro
   rw [← hn] at hss hb1
   rw [← hm4] at hse hl2
   rw [← hm5] at hl2 hbd
   have hn6:n1=n+1:=by rw [hn5,List.length_append,hn];rfl
   generalize zy Gd.enc q.act=gl at *
   generalize hji:(j:Int)=ji at *
   obtain ⟨qO,qA,qT,qV,qS,qN,qCo,qCa,qCv,qCf,qCk,qXk,qXn,qXt,hqf⟩:=Pat.form q
   rw [hqf] at hat pg kq
   refine Aq ?_
   refine yZ rfl ?_
   have fz:=hat
   refine Cq ?_
   refine Cq ?_
   refine zh (args:=[.agg [int qO,.isl 14 qA,int qT,int qV,int qS,int qN,int qCo,.isl 8 qCa,int qCv,int qCf,int qCk,int qXk,int qXn,str qXt]]) rfl rfl rfl pg (zg kq) ?_
   have fz:=k0
   refine Cq ?_
   refine Cr ?_
   have f1:addN n (lenN (partA [.agg [.isl 11 gl]] 0 1))=n1:=by simp only [ee];rw [hn6];rfl
   have f2:addN m (lenN ro)=m1:=by simp only [ee];omega
   have f3:catA (dropA sl 0) (partA [.agg [.isl 11 gl]] 0 1)=sl2:=by simp only [ee];rw [hs2];simp
   have f4:catA (dropA el 0) ro=el2:=by simp only [ee];rw [he2];simp
   refine zX rfl (by conv=>lhs;cbv) rfl ?_
   have fz:=And.intro f1 (And.intro f2 (And.intro f3 f4))
   refine tgC ?_
   refine zK ⟨rfl,?_,?_⟩
   · simp only [zJ,zd,List.append_nil];and_intros<;>first | trivial | (intro hp;first | rfl | exact absurd (show false=true from hp) Bool.false_ne_true)
   refine Aq ?_
   refine vz (ss++[q.act],es++vH l j q) rfl ⟨hn1.symm,hn2.symm⟩ ?_
   dsimp only [List.cons_append,List.nil_append]
   rw [← hE3,← hE4,← hn5,← hm5]
   exact xx [.to 0,.to 1,.to 2,.to 3,.to 4,.to 5,.to 6,.gone,.gone,.gone,.to 7,.to 8] [some 0,some 1,some 2,some 3,some 4,some 5,some 6,some 10,some 11] rfl ⟨rfl,rfl,rfl,rfl,rfl,rfl,rfl,trivial⟩ (by simp) (by simp) ⟨⟨by simp,rfl⟩,⟨by simp,rfl⟩,⟨by simp,rfl⟩,⟨by simp,rfl⟩,⟨by simp,rfl⟩,⟨by simp,rfl⟩,⟨by simp,rfl⟩,trivial,trivial,trivial,⟨by simp,rfl⟩,⟨by simp,rfl⟩,trivial⟩ ⟨zx (b:=0) rfl rfl rfl (by rw [zw _ kcl];exact WkL.refl _ _),zx (b:=1) rfl rfl rfl ⟨.refl _,.refl _,.refl _,.refl _,trivial⟩,zx (b:=2) rfl rfl rfl ⟨.refl _,trivial⟩,zx (b:=3) rfl rfl rfl ⟨.refl _,trivial⟩,zx (b:=4) rfl rfl rfl ⟨.cl kl,trivial⟩,zx (b:=5) rfl rfl rfl ⟨.refl _,.refl _,.refl _,.refl _,trivial⟩,.some 6 _ _ rfl rfl rfl (.loop _ _ _ _ _ _ _ _ ⟨.cl krl,.refl _,.refl _,.refl _,.refl _,.refl _,.refl _,trivial⟩),zR (b:=10) rfl rfl rfl rfl ksl2,zR (b:=11) rfl rfl rfl rfl kel2,trivial⟩
 · rw [h] at hsl
   exact absurd (List.eq_nil_of_length_eq_zero hsl.symm) hne
 obtain ⟨hS1,hS2⟩:=hS
 rw [hsl,List.take_length] at hS1 hS2
 rw [← hS1,← hS2]
 rw [← hS2] at hm2
 obtain ⟨ss,es⟩:=S
 dsimp only at hm2 ⊢
 have ksl:=stE_closedL ss
 have kel:=Ed.closedL' es
 have hss:=zp stE ss
 have hse:=zp Ed.enc es
 clear hS1 hS2
 generalize zy stE ss=sl at *
 generalize zy Ed.enc es=el at *
 generalize ss.length=n at *
 generalize es.length=m at *
 dsimp only [List.cons_append,List.nil_append]
 have k1:iLt 2048 (iOf m)=false:=by simp only [ee];simp;omega
 have fz:=k1
 refine Cq ?_
 refine Cr ?_
 refine zX rfl (by conv=>lhs;cbv) rfl ?_
 refine tgA ?_
 refine zK ⟨rfl,?_,?_⟩
 · simp only [zJ,zd,List.append_nil];and_intros<;>first | trivial | (intro hp;first | rfl | exact absurd (show false=true from hp) Bool.false_ne_true)
 refine Aq ?_
 refine zP rfl rfl ?_
 refine ⟨[.gone,.gone,.gone,.gone,.gone,.gone,.gone,.isl 1 sl,.isl 17 el],⟨trivial,trivial,trivial,trivial,trivial,trivial,trivial,⟨_,rfl,(zw _ ksl).symm⟩,⟨_,rfl,(zw _ kel).symm⟩,trivial⟩,?_⟩
 exact .tup' ⟨.agg' ⟨.refl _,.refl _,.of (xf rfl hss.symm),.of (xf rfl hse.symm),trivial⟩,.cl kl,.refl _,trivial⟩
theorem Pat.exsL_nodes {l:List Pat} (h:∀ e∈l,e.exs=e.nodes.map Pat.cond):Pat.exsL l=(Pat.nodesL l).map Pat.cond:=by
 induction l with
 | nil=>simp [Pat.exsL,Pat.nodesL]
 | cons e r ih=>rw [Pat.exsL,Pat.nodesL,h e (by simp),ih fun e he=>h e (by simp [he]),List.map_append]
theorem Pat.exs_nodes : ∀ p:Pat,p.exs=p.nodes.map Pat.cond:=Pat.ind fun o a t v s n c h=>by
 rw [Pat.exs,Pat.nodes,List.map_cons,Pat.exsL_nodes h];rfl
theorem Pat.Sm_iff (p:Pat):p.Sm↔p.nodes.length≤1048576∧∀ q∈p.nodes,q.cond.Sm:=by
 rw [Pat.Sm,Pat.nodes_len,Pat.exs_nodes];simp
theorem tK : yesE.Sm:=by simp [Ex.Sm,yesE,Ex.cnt,Ex.cntL]
theorem uW : yesE.chk=0:=by
 have h1:yesE.cnt=1:=by simp [yesE,Ex.cnt,Ex.cntL]
 have h2:yesE.dep=1:=by simp [yesE,Ex.dep,Ex.depL]
 have h3:yesE.nodes=[yesE]:=by simp [yesE,Ex.nodes,Ex.nodesL]
 rw [Ex.chk,h1,h2,h3]
 have hz:(⟨#[]⟩:ByteArray).size=0:=rfl
 simp [hz,zU,Ex.nodeE,yesE,Ex.op,Ex.args,Ex.var,Ex.fld,Ex.kind,Ex.val,Ex.consE,Ex.formB,uD,tz,tX,tW,Vl.chk,Vl.sizeE]
theorem ev_node3 (k v:Int) (hk:0≤k∧k≤15) (hv:0≤v∧v≤15):(eventP k v).nodeE=0:=by
 have:=uW
 simp [Pat.nodeE,eventP,Pat.op,Pat.args,Pat.ty,Pat.var,Pat.scope,Pat.span,Pat.cond,uz,tp,yg,wl,xw,xa,this]
 omega
def yq (p:Pat):Pat:=.mk 4 [p] 0 0 0 0 Ex0
def wZ (l:List Pat):Pat:=.mk 1 l 0 0 0 0 Ex0
def xA : Pat:=wZ [eventP 0 0,eventP 1 1]
def xQ : Pat:=yq (eventP 1 1)
def xB : Pat:=wZ [eventP 0 0,xQ]
def xC : Pat:=yq (eventP 0 0)
def xS : Pat:=wZ [eventP 0 0,eventP 1 1,yq (eventP 2 2)]
theorem wz (k v:Int):(eventP k v).nodes=[eventP k v]:=by simp [eventP,Pat.nodes,Pat.nodesL]
theorem ux (p:Pat):(yq p).nodes=yq p :: p.nodes:=by simp [yq,Pat.nodes,Pat.nodesL]
theorem seq_nodes2 (p q:Pat):(wZ [p,q]).nodes=wZ [p,q] :: (p.nodes++q.nodes):=by simp [wZ,Pat.nodes,Pat.nodesL]
theorem seq_nodes3 (p q r:Pat):(wZ [p,q,r]).nodes=wZ [p,q,r] :: (p.nodes++(q.nodes++r.nodes)):=by simp [wZ,Pat.nodes,Pat.nodesL]
theorem uK : xA.nodes=[xA,eventP 0 0,eventP 1 1]:=by simp [xA,seq_nodes2,wz]
theorem tP : xQ.nodes=[xQ,eventP 1 1]:=by simp [xQ,ux,wz]
theorem uM : xB.nodes=[xB,eventP 0 0,xQ,eventP 1 1]:=by rw [xB,seq_nodes2,wz,tP];rfl
theorem uL : xC.nodes=[xC,eventP 0 0]:=by simp [xC,ux,wz]
theorem xS_nodes : xS.nodes=[xS,eventP 0 0,eventP 1 1,yq (eventP 2 2),eventP 2 2]:=by simp [xS,seq_nodes3,ux,wz]
theorem plus_node (p:Pat):(yq p).nodeE=0:=by
 simp [Pat.nodeE,yq,Pat.op,Pat.args,Pat.ty,Pat.var,Pat.scope,Pat.span,Pat.cond,uz,tp,yg,wl,xw,xa]
theorem seq_node (p q:Pat) (l:List Pat) (h:l.length≤60):(wZ (p :: q :: l)).nodeE=0:=by
 simp [Pat.nodeE,wZ,Pat.op,Pat.args,Pat.ty,Pat.var,Pat.scope,Pat.span,Pat.cond,uz,tp,yg,wl,xw,xa]
 omega
def ezP (l:List Pat):Prop:=∀ q∈l,q.nodeE=0∧q.op<8∧q.cond.Sm
theorem tr (k v:Int) (hk:0≤k∧k≤15) (hv:0≤v∧v≤15):ezP [eventP k v]:=by
 intro q hq
 rw [List.mem_singleton.1 hq]
 exact ⟨ev_node3 k v hk hv,by simp [eventP,Pat.op],tK⟩
theorem wG {p:Pat} {l:List Pat} (h:ezP [p]) (hl:ezP l):ezP (p :: l):=by
 intro q hq
 rcases List.mem_cons.1 hq with rfl | hq
 · exact h _ (by simp)
 exact hl q hq
theorem sY (p:Pat):ezP [yq p]:=by
 intro q hq
 rw [List.mem_singleton.1 hq]
 exact ⟨plus_node p,by simp [yq,Pat.op],tO⟩
theorem ez_seq (p q:Pat) (l:List Pat) (h:l.length≤60):ezP [wZ (p :: q :: l)]:=by
 intro z hz
 rw [List.mem_singleton.1 hz]
 exact ⟨seq_node p q l h,by simp [wZ,Pat.op],tO⟩
theorem ez_xA : ezP xA.nodes:=by rw [uK];exact wG (ez_seq _ _ _ (by simp)) (wG (tr _ _ (by omega) (by omega)) (tr _ _ (by omega) (by omega)))
theorem ez_xQ : ezP xQ.nodes:=by rw [tP];exact wG (sY _) (tr _ _ (by omega) (by omega))
theorem ez_xB : ezP xB.nodes:=by rw [uM];exact wG (ez_seq _ _ _ (by simp)) (wG (tr _ _ (by omega) (by omega)) (wG (sY _) (tr _ _ (by omega) (by omega))))
theorem ez_xC : ezP xC.nodes:=by rw [uL];exact wG (sY _) (tr _ _ (by omega) (by omega))
theorem ez_xS : ezP xS.nodes:=by rw [xS_nodes];exact wG (ez_seq _ _ _ (by simp)) (wG (tr _ _ (by omega) (by omega)) (wG (tr _ _ (by omega) (by omega)) (wG (sY _) (tr _ _ (by omega) (by omega)))))
theorem ez_e1 : ezP (eventP 1 1).nodes:=by rw [wz];exact tr _ _ (by omega) (by omega)
theorem sU {p:Pat} (h:ezP p.nodes) (hn:p.nodes.length≤64):p.Sm:=(Pat.Sm_iff p).2 ⟨by omega,fun q hq=>(h q hq).2.2⟩
theorem tL {p:Pat} (h:ezP p.nodes) (hn:p.nodes.length≤64) (hd:p.dep≤12):p.chkR=0:=chkR_zero.2 ⟨by rw [← Pat.nodes_len];exact hn,hd,fun q hq=>(h q hq).1⟩
theorem ez_chk {p:Pat} (h:ezP p.nodes) (hn:p.nodes.length≤64) (hd:p.dep≤12) (hc:(yu p.nodes).2.2=true):p.chk=0:=by
 have hw:p.wholeE=0:=by
  rw [Pat.wholeE,tL h hn hd,if_neg (by decide)]
  exact vW fun q hq=>by rw [if_neg];have:=(h q hq).2.1;omega
 rw [Pat.chk,hw,hc];rfl
theorem xA_sm : xA.Sm:=sU ez_xA (by rw [uK];simp)
theorem xQ_sm : xQ.Sm:=sU ez_xQ (by rw [tP];simp)
theorem xB_sm : xB.Sm:=sU ez_xB (by rw [uM];simp)
theorem xC_sm : xC.Sm:=sU ez_xC (by rw [uL];simp)
theorem xS_sm : xS.Sm:=sU ez_xS (by rw [xS_nodes];simp)
theorem e1_sm : (eventP 1 1).Sm:=sU ez_e1 (by rw [wz];simp)
theorem xA_chkR : xA.chkR=0:=tL ez_xA (by rw [uK];simp) (by simp [xA,wZ,eventP,Pat.dep,Pat.depL])
theorem xQ_chkR : xQ.chkR=0:=tL ez_xQ (by rw [tP];simp) (by simp [xQ,yq,eventP,Pat.dep,Pat.depL])
theorem xB_chkR : xB.chkR=0:=tL ez_xB (by rw [uM];simp) (by simp [xB,xQ,yq,wZ,eventP,Pat.dep,Pat.depL])
theorem xC_chkR : xC.chkR=0:=tL ez_xC (by rw [uL];simp) (by simp [xC,yq,eventP,Pat.dep,Pat.depL])
theorem e1_chkR : (eventP 1 1).chkR=0:=tL ez_e1 (by rw [wz];simp) (by simp [eventP,Pat.dep,Pat.depL])
theorem xA_fold : yu xA.nodes=(2,0,true):=by rw [uK];simp [yu,wu,xA,wZ,eventP,Pat.op,Pat.var,Pat.scope,yg,xw]
theorem xB_fold : yu xB.nodes=(2,0,true):=by rw [uM];simp [yu,wu,xB,xQ,yq,wZ,eventP,Pat.op,Pat.var,Pat.scope,yg,xw]
theorem xC_fold : yu xC.nodes=(1,0,true):=by rw [uL];simp [yu,wu,xC,yq,eventP,Pat.op,Pat.var,Pat.scope,yg,xw]
theorem xS_fold : yu xS.nodes=(3,0,true):=by rw [xS_nodes];simp [yu,wu,xS,yq,wZ,eventP,Pat.op,Pat.var,Pat.scope,yg,xw]
theorem xA_chk : xA.chk=0:=ez_chk ez_xA (by rw [uK];simp) (by simp [xA,wZ,eventP,Pat.dep,Pat.depL]) (by rw [xA_fold])
theorem xB_chk : xB.chk=0:=ez_chk ez_xB (by rw [uM];simp) (by simp [xB,xQ,yq,wZ,eventP,Pat.dep,Pat.depL]) (by rw [xB_fold])
theorem xC_chk : xC.chk=0:=ez_chk ez_xC (by rw [uL];simp) (by simp [xC,yq,eventP,Pat.dep,Pat.depL]) (by rw [xC_fold])
theorem xS_chk : xS.chk=0:=ez_chk ez_xS (by rw [xS_nodes];simp) (by simp [xS,yq,wZ,eventP,Pat.dep,Pat.depL]) (by rw [xS_fold])
def evX (k v t:Int):Ed:=⟨0,t,v,k,yesE,[],[],[],[],[]⟩
theorem t8 (k v:Int):(eventP k v).outs=[(evX k v 0,none)]:=by
 rw [Pat.outs_eq];simp [tD,eventP,Pat.op,Pat.var,Pat.ty,Pat.cond,evX]
theorem xA_outs : xA.outs=[(evX 0 0 0,some (eventP 1 1))]:=by
 rw [Pat.outs_eq]
 simp [tD,xA,wZ,Pat.op,Pat.args,t8,uj,xM]
theorem xB_outs : xB.outs=[(evX 0 0 0,some xQ)]:=by
 rw [Pat.outs_eq]
 simp [tD,xB,wZ,Pat.op,Pat.args,t8,uj,xM]
theorem plus_outs (k v:Int):(yq (eventP k v)).outs=[(evX k v 0,none),(evX k v 0,some (yq (eventP k v)))]:=by
 rw [Pat.outs_eq]
 have h:(yq (eventP k v)).args=[eventP k v]:=rfl
 rw [h]
 simp [tD,show (yq (eventP k v)).op=4 from rfl,t8,tH]
theorem e_der (k v:Int):(eventP k v).der=some ([evX k v (-1)],[]):=by
 rw [Pat.der,t8]
 simp [um,tm,vU,tB,xW,evX]
theorem der_two {p q:Pat} {k v:Int} (ho:p.outs=[(evX k v 0,some q)]) (hc:q.chkR=0):p.der=some ([evX k v 0],[q]):=by
 rw [Pat.der,ho]
 simp [um,tm,vU,tB,xW,x9,evX,hc]
theorem der_plus (k v:Int) (hc:(yq (eventP k v)).chkR=0):(yq (eventP k v)).der=some ([evX k v (-1),evX k v 0],[yq (eventP k v)]):=by
 rw [Pat.der,plus_outs]
 simp [um,tm,vU,tB,xW,x9,evX,hc]
theorem xA_der : xA.der=some ([evX 0 0 0],[eventP 1 1]):=der_two xA_outs e1_chkR
theorem xB_der : xB.der=some ([evX 0 0 0],[xQ]):=der_two xB_outs xQ_chkR
theorem xQ_der : xQ.der=some ([evX 1 1 (-1),evX 1 1 0],[xQ]):=der_plus 1 1 xQ_chkR
theorem xC_der : xC.der=some ([evX 0 0 (-1),evX 0 0 0],[xC]):=der_plus 0 0 xC_chkR
theorem rm {p q:Pat} (h:p.op≠q.op):eqB p q=false:=xl fun e=>h (by rw [e])
theorem yD {α:Type} (a:α):eqB a a=true:=xF rfl
theorem xA_res : xA.res=some [xA,eventP 1 1]:=by
 have h1:eqB (eventP 1 1) xA=false:=rm (by decide)
 rw [Pat.res,show 257=254+1+1+1 from rfl]
 simp [sC,xA_der,e_der,wQ,x9,h1]
theorem xB_res : xB.res=some [xB,xQ]:=by
 have h1:eqB xQ xB=false:=rm (by decide)
 have h2:=yD xQ
 rw [Pat.res,show 257=254+1+1+1 from rfl]
 simp [sC,xB_der,xQ_der,wQ,x9,h1,h2]
theorem xC_res : xC.res=some [xC]:=by
 have h2:=yD xC
 rw [Pat.res,show 257=254+1+1+1 from rfl]
 simp [sC,xC_der,wQ,x9,h2]
def xG (q:Pat):Prop:=q=xA∨q=eventP 1 1∨q=xB∨q=xQ∨q=xC
theorem xQ_prs : PrsT xQ:=PrsT.plus0 (q:=eventP 1 1) rfl rfl (PrsT.ev rfl) (by rw [t8];simp)
theorem xC_prs : PrsT xC:=PrsT.plus0 (q:=eventP 0 0) rfl rfl (PrsT.ev rfl) (by rw [t8];simp)
theorem xA_prs : PrsT xA:=PrsT.br (fun h=>absurd h (by decide)) (.inl rfl) (by decide) (by
 intro q hq
 have hq:q∈[eventP 0 0,eventP 1 1]:=hq
 simp only [List.mem_cons,List.not_mem_nil,or_false] at hq
 rcases hq with rfl | rfl<;>exact PrsT.ev rfl)
theorem xB_prs : PrsT xB:=PrsT.br (fun h=>absurd h (by decide)) (.inl rfl) (by decide) (by
 intro q hq
 have hq:q∈[eventP 0 0,xQ]:=hq
 simp only [List.mem_cons,List.not_mem_nil,or_false] at hq
 rcases hq with rfl | rfl
 · exact PrsT.ev rfl
 exact xQ_prs)
theorem xG_ok : ∀ q,xG q→RsOk q:=by
 intro q hq
 rcases hq with rfl | rfl | rfl | rfl | rfl
 · exact ⟨by rw [← Pat.nodes_len,uK];simp,xA_sm.2,xA_prs,by rw [xA_outs];simp⟩
 · exact ⟨by rw [← Pat.nodes_len,wz];simp,e1_sm.2,PrsT.ev rfl,by rw [t8];simp⟩
 · exact ⟨by rw [← Pat.nodes_len,uM];simp,xB_sm.2,xB_prs,by rw [xB_outs];simp⟩
 · exact ⟨by rw [← Pat.nodes_len,tP];simp,xQ_sm.2,xQ_prs,by rw [xQ,plus_outs];simp⟩
 exact ⟨by rw [← Pat.nodes_len,uL];simp,xC_sm.2,xC_prs,by rw [xC,plus_outs];simp⟩
theorem ri {q r:Pat} {x:List Ed} {l:List Pat} (h:q.der=some (x,l)) (hl:∀ z∈l,xG z):∀ S,q.der=some S→∀ z∈S.2,xG z:=by
 intro S hS
 rw [h] at hS
 cases hS
 exact hl
theorem xG_der : ∀ q,xG q→∀ S,q.der=some S→∀ r∈S.2,xG r:=by
 intro q hq
 rcases hq with rfl | rfl | rfl | rfl | rfl
 · exact ri (r:=xA) xA_der fun z hz=>by rw [List.mem_singleton.1 hz];exact .inr (.inl rfl)
 · exact ri (r:=xA) (e_der 1 1) fun z hz=>by simp at hz
 · exact ri (r:=xA) xB_der fun z hz=>by rw [List.mem_singleton.1 hz];exact .inr (.inr (.inr (.inl rfl)))
 · exact ri (r:=xA) xQ_der fun z hz=>by rw [List.mem_singleton.1 hz];exact .inr (.inr (.inr (.inl rfl)))
 exact ri (r:=xA) xC_der fun z hz=>by rw [List.mem_singleton.1 hz];exact .inr (.inr (.inr (.inr rfl)))
theorem xG_set : RsSet xG:=⟨xG_ok,xG_der⟩
theorem gA : xG xA:=.inl rfl
theorem gE : xG (eventP 1 1):=.inr (.inl rfl)
theorem gB' : xG xB:=.inr (.inr (.inl rfl))
theorem gQ : xG xQ:=.inr (.inr (.inr (.inl rfl)))
theorem gC : xG xC:=.inr (.inr (.inr (.inr rfl)))
theorem xG_chkR : ∀ q,xG q→q.chkR=0:=by
 intro q hq
 rcases hq with rfl | rfl | rfl | rfl | rfl
 · exact xA_chkR
 · exact e1_chkR
 · exact xB_chkR
 · exact xQ_chkR
 exact xC_chkR
theorem xG_some : ∀ q,xG q→∃ S,q.der=some S∧∀ r∈S.2,r.Sm:=by
 have h:∀ q,xG q→∃ S,q.der=some S:=by
  intro q hq
  rcases hq with rfl | rfl | rfl | rfl | rfl
  · exact ⟨_,xA_der⟩
  · exact ⟨_,e_der 1 1⟩
  · exact ⟨_,xB_der⟩
  · exact ⟨_,xQ_der⟩
  exact ⟨_,xC_der⟩
 intro q hq
 obtain ⟨S,hS⟩:=h q hq
 exact ⟨S,hS,fun r hr=>(xG_ok r (xG_der q hq S hS r hr)).sm⟩
theorem xG_st {l:List Pat} (hn:l.length≤256) (h:∀ q∈l,xG q):StOk l:=⟨hn,fun q hq=>xG_ok q (h q hq),fun q hq=>xG_chkR q (h q hq),fun q hq=>xG_some q (h q hq)⟩
theorem act_ev (k v:Int):ActT (eventP k v):=by apply ActT.zero<;>simp [eventP,Pat.op]
theorem act_plus (p:Pat):ActT (yq p):=by apply ActT.zero<;>simp [yq,Pat.op]
theorem xG_act : ∀ q,xG q→ActT q:=by
 intro q hq
 rcases hq with rfl | rfl | rfl | rfl | rfl
 · exact ActT.one (p:=xA) (q:=eventP 0 0) (r:=[eventP 1 1]) rfl rfl (act_ev 0 0)
 · exact act_ev 1 1
 · exact ActT.one (p:=xB) (q:=eventP 0 0) (r:=[xQ]) rfl rfl (act_ev 0 0)
 · exact act_plus _
 exact act_plus _
theorem ev_act (k v:Int):(eventP k v).act=[]:=by rw [Pat.act_eq];simp [rY,eventP,Pat.op]
theorem plus_act (p:Pat):(yq p).act=[]:=by rw [Pat.act_eq];simp [rY,yq,Pat.op]
theorem seq_act (p:Pat) (l:List Pat):(wZ (p :: l)).act=p.act:=by rw [Pat.act_eq];simp [rY,wZ,Pat.op,Pat.args]
def evY (i k v t:Int):Ed:=⟨i,t,v,k,yesE,[],[],[],[],[]⟩
def yA : Au:=⟨2,0,[[],[]],[evY 0 0 0 1,evY 1 1 1 (-1)]⟩
def yB : Au:=⟨2,0,[[],[]],[evY 0 0 0 1,evY 1 1 1 (-1),evY 1 1 1 1]⟩
def yC : Au:=⟨1,0,[[]],[evY 0 0 0 (-1),evY 0 0 0 0]⟩
theorem xA_cmp : sH xA [xA,eventP 1 1]=yA:=by
 have h1:eqB (eventP 1 1) xA=false:=rm (by decide)
 have h2:=yD (eventP 1 1)
 have h3:xA.act=[]:=by rw [xA,seq_act,ev_act]
 simp [sH,vl,vH,xA_der,e_der,toC,evX,evY,x9,h1,h2,h3,Pat.nVars,Pat.nScs,xA_chk,xA_fold,ev_act,yA]
theorem xB_cmp : sH xB [xB,xQ]=yB:=by
 have h1:eqB xQ xB=false:=rm (by decide)
 have h2:=yD xQ
 have h3:xB.act=[]:=by rw [xB,seq_act,ev_act]
 have h4:xQ.act=[]:=plus_act _
 simp [sH,vl,vH,xB_der,xQ_der,toC,evX,evY,x9,h1,h2,h3,h4,Pat.nVars,Pat.nScs,xB_chk,xB_fold,yB]
theorem xC_cmp : sH xC [xC]=yC:=by
 have h2:=yD xC
 have h4:xC.act=[]:=plus_act _
 simp [sH,vl,vH,xC_der,toC,evX,evY,x9,h2,h4,Pat.nVars,Pat.nScs,xC_chk,xC_fold,yC]
theorem yA_chk : yA.chk=0:=by
 simp [Au.chk,yA,evY,inN,zU,rg,sj,rr,edE,sD,sk,orE,uW]
theorem yB_chk : yB.chk=0:=by
 simp [Au.chk,yB,evY,inN,zU,rg,sj,rr,edE,sD,sk,orE,uW]
theorem yC_chk : yC.chk=0:=by
 simp [Au.chk,yC,evY,inN,zU,rg,sj,rr,edE,sD,sk,orE,uW]
theorem xA_comp : rj xA yA [xA,eventP 1 1]:=by
 have h:∀ q∈[xA,eventP 1 1],xG q:=by
  intro q hq
  simp only [List.mem_cons,List.not_mem_nil,or_false] at hq
  rcases hq with rfl | rfl
  · exact gA
  exact gE
 have:=P_compiled xG xG_set gA xA_chk [xA,eventP 1 1] xA_res (by simp) (xG_st (by simp) h) (fun q hq=>xG_act q (h q hq)) (by rw [xA_cmp];simp [yA])
 rw [xA_cmp] at this
 exact this
theorem xB_comp : rj xB yB [xB,xQ]:=by
 have h:∀ q∈[xB,xQ],xG q:=by
  intro q hq
  simp only [List.mem_cons,List.not_mem_nil,or_false] at hq
  rcases hq with rfl | rfl
  · exact gB'
  exact gQ
 have:=P_compiled xG xG_set gB' xB_chk [xB,xQ] xB_res (by simp) (xG_st (by simp) h) (fun q hq=>xG_act q (h q hq)) (by rw [xB_cmp];simp [yB])
 rw [xB_cmp] at this
 exact this
theorem xC_comp : rj xC yC [xC]:=by
 have h:∀ q∈[xC],xG q:=by
  intro q hq
  rw [List.mem_singleton.1 hq]
  exact gC
 have:=P_compiled xG xG_set gC xC_chk [xC] xC_res (by simp) (xG_st (by simp) h) (fun q hq=>xG_act q (h q hq)) (by rw [xC_cmp];simp [yC])
 rw [xC_cmp] at this
 exact this
theorem xA_pre : xA.pre=[eventP 0 0,eventP 1 1]:=by simp [Pat.pre,xA,wZ,eventP,Pat.op,Pat.args,nEv,uE]
theorem xA_whl : xA.whl=true:=by simp [Pat.whl,xA,wZ,eventP,Pat.op,Pat.args,nEv,uE]
theorem xB_pre : xB.pre=[eventP 0 0]:=by simp [Pat.pre,xB,xQ,yq,wZ,eventP,Pat.op,Pat.args,nEv,uE]
theorem xB_whl : xB.whl=false:=by simp [Pat.whl,xB,xQ,yq,wZ,eventP,Pat.op,Pat.args,nEv,uE]
theorem xB_rst : xB.rst=xQ:=by simp [Pat.rst,xB,xQ,yq,wZ,eventP,Pat.op,Pat.args,nEv,uE,xM]
theorem xC_pre : xC.pre=[]:=by simp [Pat.pre,xC,yq,Pat.op]
theorem xC_whl : xC.whl=false:=by simp [Pat.whl,xC,yq,Pat.op]
theorem xC_rst : xC.rst=xC:=by simp [Pat.rst,xC,yq,Pat.op]
theorem xS_pre : xS.pre=[eventP 0 0,eventP 1 1]:=by simp [Pat.pre,xS,yq,wZ,eventP,Pat.op,Pat.args,nEv,uE]
theorem xS_whl : xS.whl=false:=by simp [Pat.whl,xS,yq,wZ,eventP,Pat.op,Pat.args,nEv,uE]
theorem xS_rst : xS.rst=yq (eventP 2 2):=by simp [Pat.rst,xS,yq,wZ,eventP,Pat.op,Pat.args,nEv,uE,xM]
def zA : Cpd:=⟨xA,yA,[xA,eventP 1 1]⟩
def zB : Cpd:=⟨xB,yB,[xB,xQ]⟩
def zC : Cpd:=⟨xC,yC,[xC]⟩
theorem zA_st : zA.st=0:=by rw [Cpd.st,show zA.p=xA from rfl,xA_whl,if_pos rfl]
theorem zB_st : zB.st=1:=by
 have h1:eqB xQ xB=false:=rm (by decide)
 have h2:=yD xQ
 rw [Cpd.st,show zB.p=xB from rfl,xB_whl,xB_rst,show zB.l=[xB,xQ] from rfl]
 simp [x9,h1,h2]
theorem zC_st : zC.st=0:=by
 have h2:=yD xC
 rw [Cpd.st,show zC.p=xC from rfl,xC_whl,xC_rst,show zC.l=[xC] from rfl]
 simp [x9,h2]
theorem upto0 : upto 0=[]:=rfl
theorem upto1 : upto 1=[0]:=rfl
theorem upto2 : upto 2=[0,1]:=rfl
theorem zA_tail : zA.tail 0=⟨0,[0,1],true,0⟩:=by rw [Cpd.tail,zA_st,show zA.p=xA from rfl,xA_pre,xA_whl];rfl
theorem zB_tail : zB.tail 1=⟨1,[0],false,1⟩:=by rw [Cpd.tail,zB_st,show zB.p=xB from rfl,xB_pre,xB_whl];rfl
theorem zC_tail : zC.tail 2=⟨2,[],false,0⟩:=by rw [Cpd.tail,zC_st,show zC.p=xC from rfl,xC_pre,xC_whl];rfl
def wA : List Br:=[root,⟨0,0,yesE,[]⟩,⟨1,1,yesE,[⟨0,[0,1],true,0⟩]⟩]
def wB : List Br:=[root,⟨0,0,yesE,[⟨1,[0],false,1⟩]⟩,⟨1,1,yesE,[⟨0,[0,1],true,0⟩]⟩]
def wC : List Br:=[⟨-1,0,Ex0,[⟨2,[],false,0⟩]⟩,⟨0,0,yesE,[⟨1,[0],false,1⟩]⟩,⟨1,1,yesE,[⟨0,[0,1],true,0⟩]⟩]
theorem ev_cond (k v:Int):(eventP k v).cond=yesE:=rfl
theorem ev_ty (k v:Int):(eventP k v).ty=k:=rfl
theorem zA_bld : tj xA.pre ([root],0)=([root,⟨0,0,yesE,[]⟩,⟨1,1,yesE,[]⟩],2):=by
 rw [xA_pre]
 simp [tj,sO,yP,wJ,root,ev_cond,ev_ty]
theorem zB_bld : tj xB.pre (wA,0)=(wA,1):=by
 rw [xB_pre]
 have h:=yD yesE
 simp [tj,sO,yP,wJ,root,ev_cond,ev_ty,wA,h]
theorem zC_bld : tj xC.pre (wB,0)=(wB,0):=by rw [xC_pre];rfl
theorem zA_one : vn 0 zA [root]=wA:=by rw [vn,show zA.p=xA from rfl,zA_bld,zA_tail];rfl
theorem zB_one : vn 1 zB wA=wB:=by rw [vn,show zB.p=xB from rfl,zB_bld,zB_tail];rfl
theorem zC_one : vn 2 zC wB=wC:=by rw [vn,show zC.p=xC from rfl,zC_bld,zC_tail];rfl
theorem z_all : v5 0 [zA,zB,zC] [root]=wC:=by
 rw [v5,zA_one,v5,zB_one,v5,zC_one,v5]
theorem zA_ok : zA.Ok:=⟨xA_sm,xA_chk,xA_comp,by decide,by
 intro z hz
 have hz:z∈[xA,eventP 1 1]:=hz
 simp only [List.mem_cons,List.not_mem_nil,or_false] at hz
 rcases hz with rfl | rfl
 · exact xA_sm
 · exact e1_sm,fun h=>absurd (xA_whl.symm.trans h) (by decide),by
 intro x hx
 have hx:x∈xA.pre:=hx
 rw [xA_pre] at hx
 simp only [List.mem_cons,List.not_mem_nil,or_false] at hx
 rcases hx with rfl | rfl<;>exact tK,by rw [show zA.p=xA from rfl,xA_pre];decide⟩
theorem zB_ok : zB.Ok:=⟨xB_sm,xB_chk,xB_comp,by decide,by
 intro z hz
 have hz:z∈[xB,xQ]:=hz
 simp only [List.mem_cons,List.not_mem_nil,or_false] at hz
 rcases hz with rfl | rfl
 · exact xB_sm
 · exact xQ_sm,fun _=>by rw [show zB.p=xB from rfl,xB_rst];exact ⟨xQ_sm,xQ_chkR⟩,by
 intro x hx
 have hx:x∈xB.pre:=hx
 rw [xB_pre,List.mem_singleton] at hx
 rw [hx];exact tK,by rw [show zB.p=xB from rfl,xB_pre];decide⟩
theorem zC_ok : zC.Ok:=⟨xC_sm,xC_chk,xC_comp,by decide,by
 intro z hz
 have hz:z∈[xC]:=hz
 rw [List.mem_singleton.1 hz]
 exact xC_sm,fun _=>by rw [show zC.p=xC from rfl,xC_rst];exact ⟨xC_sm,xC_chkR⟩,by
 intro x hx
 have hx:x∈xC.pre:=hx
 rw [xC_pre] at hx
 simp at hx,by rw [show zC.p=xC from rfl,xC_pre];decide⟩
theorem z_bld : sT 0 [zA,zB,zC] [root]:=by
 rw [sT,zA_one,show zA.p=xA from rfl,zA_bld]
 refine ⟨zA_ok,by decide,⟨_,rfl,rfl,by decide⟩,?_⟩
 rw [sT,zB_one,show zB.p=xB from rfl,zB_bld]
 refine ⟨zB_ok,by decide,⟨_,rfl,rfl,by decide⟩,?_⟩
 rw [sT,zC_one,show zC.p=xC from rfl,zC_bld]
 refine ⟨zC_ok,by decide,⟨_,rfl,rfl,by decide⟩,?_⟩
 rw [sT]
 decide
def xN : Nt:=⟨wC,[yA,yB,yC]⟩
theorem xN_chk : xN.chk=0:=by
 have h1:zU Au.chk [yA,yB,yC]=0:=vW fun q hq=>by
  simp only [List.mem_cons,List.not_mem_nil,or_false] at hq
  rcases hq with rfl | rfl | rfl
  · exact yA_chk
  · exact yB_chk
  exact yC_chk
 have u0:ups wC 0=[]:=rfl
 have u1:ups wC 1=[1]:=rfl
 have u2:ups wC 2=[2,1]:=rfl
 have hl:wC.length=3:=rfl
 have v1:ups wC ((1:Nat):Int)=[1]:=rfl
 have v2:ups wC ((2:Nat):Int)=[2,1]:=rfl
 have h3:=yD Ex0
 have h4:=yD ([0,1]:List Int)
 have h5:=yD ([0]:List Int)
 have h6:=yD ([]:List Int)
 rw [Nt.chk,show xN.rest=[yA,yB,yC] from rfl,show xN.brs=wC from rfl,h1]
 rw [if_neg (by rw [hl];simp),we]
 have hb:t5 xN 0 [false,false,false] wC=0:=by
  have e0:brE wC 0 ⟨-1,0,Ex0,[⟨2,[],false,0⟩]⟩=0:=by simp [brE,h3]
  have e1:brE wC 1 ⟨0,0,yesE,[⟨1,[0],false,1⟩]⟩=0:=by
   simp only [brE,v1]
   simp [inN,uW,orE,wC,wJ]
  have e2:brE wC 2 ⟨1,1,yesE,[⟨0,[0,1],true,0⟩]⟩=0:=by
   simp only [brE,v2]
   simp [inN,uW,orE,wC,wJ]
  have t0:ti xN.rest (ups wC ((0:Nat):Int)).length [false,false,false] [⟨2,[],false,0⟩]=(0,[false,false,true]):=by
   rw [show ((0:Nat):Int)=0 from rfl,u0]
   simp [ti,tlE,xN,inN,upto0,h6,yC]
  have t1:ti xN.rest (ups wC ((1:Nat):Int)).length [false,false,true] [⟨1,[0],false,1⟩]=(0,[false,true,true]):=by
   rw [show ((1:Nat):Int)=1 from rfl,u1]
   simp [ti,tlE,xN,inN,upto1,h5,yB]
  have t2:ti xN.rest (ups wC ((2:Nat):Int)).length [false,true,true] [⟨0,[0,1],true,0⟩]=(0,[true,true,true]):=by
   rw [show ((2:Nat):Int)=2 from rfl,u2]
   simp [ti,tlE,xN,inN,upto2,h4,yA]
  rw [show t5 xN 0 [false,false,false] wC=t5 xN 0 [false,false,false] [⟨-1,0,Ex0,[⟨2,[],false,0⟩]⟩,⟨0,0,yesE,[⟨1,[0],false,1⟩]⟩,⟨1,1,yesE,[⟨0,[0,1],true,0⟩]⟩] from rfl]
  rw [t5,show xN.brs=wC from rfl,e0,t0,t5,show xN.brs=wC from rfl,e1,t1,t5,show xN.brs=wC from rfl,e2,t2,t5]
  simp [orE]
 exact hb
theorem xN_saved : xN.saved=1:=by
 rw [Nt.saved,show xN.brs=wC from rfl]
 rfl
theorem vu (k v:Int):PCall EE 42 [int k,int v] (eventP k v).enc:=by
 have h1:PCall EE 86 [bool true] (.agg [int 1,int 1,str ⟨#[]⟩]):=P_Flag true
 rw [eventP.enc_eq]
 refine zo ?_;unhygienic intros
 refine fB T42 [.cell 4 14 true] ?_
 refine Aq ?_
 refine oPA h1 ?_
 refine Aq ?_
 exact fE [.gone]
theorem P_plus32 (p:Pat):PCall EE 43 [p.enc] (Pat.mk 4 [p] 0 0 0 0 Ex0).enc:=by
 have hcl:=Pat.closed p
 have hE0:Ex0.enc=.agg [int 0,.isl 8 [],int 0,int 0,int 0,int 0,int 0,str ⟨#[]⟩]:=by rw [Ex0,Ex.enc_mk,zu];rfl
 have hen:(Pat.mk 4 [p] 0 0 0 0 Ex0).enc=.agg [int 4,.isl 14 [p.enc],int 0,int 0,int 0,int 0,int 0,.isl 8 [],int 0,int 0,int 0,int 0,int 0,str ⟨#[]⟩]:=by
  rw [Ex0,Pat.enc_mk,zu,zu];rfl
 rw [hen]
 obtain ⟨pO,pA,pT,pV,pS,pN,pCo,pCa,pCv,pCf,pCk,pXk,pXn,pXt,hx⟩:=Pat.form p
 rw [hx] at hcl ⊢
 have kcl:AV.closedL [.agg [int pO,.isl 14 pA,int pT,int pV,int pS,int pN,int pCo,.isl 8 pCa,int pCv,int pCf,int pCk,int pXk,int pXn,str pXt]]=true:=zg hcl
 refine zo ?_;unhygienic intros
 refine fB T43 [.cell 2 14 true] ?_
 refine Aq ?_
 refine zP rfl rfl ?_
 exact ⟨[.gone,.gone,.isl 14 [.agg [int pO,.isl 14 pA,int pT,int pV,int pS,int pN,int pCo,.isl 8 pCa,int pCv,int pCf,int pCk,int pXk,int pXn,str pXt]]],⟨trivial,trivial,⟨_,rfl,(zw _ kcl).symm⟩,trivial⟩,.agg' ⟨.refl _,.of (xm rfl rfl),.refl _,.refl _,.refl _,.refl _,.refl _,.nilI _,.refl _,.refl _,.refl _,.refl _,.refl _,.refl _,trivial⟩⟩
theorem P_seq32 (l:List Pat):PCall EE 41 [.isl 14 (zy Pat.enc l)] (Pat.mk 1 l 0 0 0 0 Ex0).enc:=by
 have kl:=Pat.closedI l
 have hen:(Pat.mk 1 l 0 0 0 0 Ex0).enc=.agg [int 1,.isl 14 (zy Pat.enc l),int 0,int 0,int 0,int 0,int 0,.isl 8 [],int 0,int 0,int 0,int 0,int 0,str ⟨#[]⟩]:=by
  rw [Ex0,Pat.enc_mk,zu,zu];rfl
 rw [hen]
 generalize zy Pat.enc l=pl at *
 refine zo ?_;unhygienic intros
 refine fB T41 [.cell 2 14 true] ?_
 refine Aq ?_
 exact fE [.gone]
theorem P_SamePatterns (a b:List Pat) (hs:∀ q∈a,q.Sm) (hl:a.length<1048577):PCall EE 15 [.isl 14 (zy Pat.enc a),.isl 14 (zy Pat.enc b)] (bool (eqB a b)):=by
 obtain ⟨R,hR⟩:∃ R,R=eqB a b:=⟨_,rfl⟩
 rw [← hR]
 have ka:=Pat.closedI a
 have kb:=Pat.closedI b
 have hla:=zp Pat.enc a
 have hlb:=zp Pat.enc b
 have hsame:=fun x y (h:x∈a)=>vr x y (hs x h)
 refine zo ?_;unhygienic intros
 generalize hea:zy Pat.enc a=ea at *
 generalize heb:zy Pat.enc b=eb at *
 by_cases hlen:ea.length=eb.length
 case neg =>
  have hn:iNe (lenA ea) (lenA eb)=true:=by simp only [ee];simp;omega
  have hRf:R=false:=by rw [hR];exact xl fun h=>hlen (by rw [hla,hlb,h])
  refine fB T15 [.t 4] ?_
  have fz:=hn
  refine Cq ?_
  refine goC 60 ?_
  exact fBo (h:=hRf.symm)
 case pos =>
  have hn:iNe (lenA ea) (lenA eb)=false:=by simp only [ee];simp;omega
  refine fB T15 [.t 4] ?_
  have fz:=hn
  refine Cq ?_
  refine goC 60 ?_
  refine ze (ι:=List Pat × List Pat × List Pat × Int) (fun p=>([(5,int p.2.2.2),(0,.isl 14 ea),(1,.isl 14 eb)],[])) (fun p=>a=p.1++p.2.1∧b=p.1++p.2.2.1∧p.2.2.2=p.1.length) (fun p=>p.2.1.length) ([],a,b,0) ⟨rfl,rfl,rfl⟩ ?_ ?_
  · exact ya [] [] trivial trivial ⟨.refl _,.cl ka,.cl kb,trivial⟩
  rintro ⟨d,r,s,i⟩ ⟨g1,g2,gi⟩
  dsimp only at g1 g2 gi ⊢
  have L1:a.length=d.length+r.length:=by rw [g1,List.length_append]
  have L2:b.length=d.length+s.length:=by rw [g2,List.length_append]
  cases r with
  | nil =>
   simp only [List.length_nil,Nat.add_zero] at L1
   have hs0:s=[]:=List.eq_nil_of_length_eq_zero (by omega)
   have hRt:R=true:=by rw [hR,g1,g2,hs0];exact xF rfl
   have hc:iLt i (lenA ea)=false:=xR e_iLt e_lenA (by omega)
   have fz:=hc
   refine Cq ?_
   refine goC 60 ?_
   refine zk ?_
   refine Aq ?_
   exact fBo (h:=hRt.symm)
  | cons x r =>
   rw [List.length_cons] at L1
   cases s with
   | nil=>simp only [List.length_nil,Nat.add_zero] at L2;omega
   | cons y s =>
    rw [List.length_cons] at L2
    have hc:iLt i (lenA ea)=true:=xU e_iLt e_lenA (by omega)
    have hx1:=yX e_atA hea g1 gi
    have hy1:=yX e_atA heb g2 gi
    have hi2:iAdd .i64 i 1=((d++[x]).length:Int):=by rw [List.length_append];exact yh e_iAdd gi (by omega)
    have ps:=hsame x y (by rw [g1];simp)
    have kx:=Pat.closed x
    have ky:=Pat.closed y
    obtain ⟨B,hB⟩:∃ B,B=eqB x y:=⟨_,rfl⟩
    rw [← hB] at ps
    obtain ⟨xO,xA,xT,xV,xS,xN,xCo,xCa,xCv,xCf,xCk,xXk,xXn,xXt,hx⟩:=Pat.form x
    obtain ⟨yO,yA,yT,yV,yS,yN,yCo,yCa,yCv,yCf,yCk,yXk,yXn,yXt,hy⟩:=Pat.form y
    rw [hx] at ps hx1 kx
    rw [hy] at ps hy1 ky
    have kxy:AV.closedL [.agg [int xO,.isl 14 xA,int xT,int xV,int xS,int xN,int xCo,.isl 8 xCa,int xCv,int xCf,int xCk,int xXk,int xXn,str xXt],.agg [int yO,.isl 14 yA,int yT,int yV,int yS,int yN,int yCo,.isl 8 yCa,int yCv,int yCf,int yCk,int yXk,int yXn,str yXt]]=true:=by rw [AV.closedL,AV.closedL,kx,ky];rfl
    have hlt:i<ea.length:=by omega
    have hlt2:i<eb.length:=by omega
    have hge:0≤i:=by omega
    have nt:bNot true=false:=by simp only [ee];rfl
    have nf:bNot false=true:=by simp only [ee];rfl
    cases B with
    | false =>
     have hRf:R=false:=by
      rw [hR,g1,g2]
      refine xl fun h=>?_
      have h2:=List.append_cancel_left h
      rw [List.cons.injEq] at h2
      rw [xF h2.1] at hB
      cases hB
     have fz:=And.intro hc (And.intro hx1 hy1)
     refine Cq ?_
     refine Cr ?_
     refine zX rfl (by conv=>lhs;cbv) rfl ?_
     have fz:=And.intro hx1 hy1
     refine tgC ?_
     refine xL (args:=[.agg [int xO,.isl 14 xA,int xT,int xV,int xS,int xN,int xCo,.isl 8 xCa,int xCv,int xCf,int xCk,int xXk,int xXn,str xXt],.agg [int yO,.isl 14 yA,int yT,int yV,int yS,int yN,int yCo,.isl 8 yCa,int yCv,int yCf,int yCk,int yXk,int yXn,str yXt]]) rfl rfl rfl ps kxy ?_
     have fz:=nf
     refine tgC ?_
     refine zK ⟨rfl,by simp [zJ],?_⟩
     refine goC 60 ?_
     refine zf ?_
     refine Aq ?_
     exact fBo (h:=hRf.symm)
    | true =>
     have hxy:x=y:=eqB_iff.1 hB.symm
     have fz:=And.intro hc (And.intro hx1 hy1)
     refine Cq ?_
     refine Cr ?_
     refine zX rfl (by conv=>lhs;cbv) rfl ?_
     have fz:=And.intro hx1 hy1
     refine tgC ?_
     refine xL (args:=[.agg [int xO,.isl 14 xA,int xT,int xV,int xS,int xN,int xCo,.isl 8 xCa,int xCv,int xCf,int xCk,int xXk,int xXn,str xXt],.agg [int yO,.isl 14 yA,int yT,int yV,int yS,int yN,int yCo,.isl 8 yCa,int yCv,int yCf,int yCk,int yXk,int yXn,str yXt]]) rfl rfl rfl ps kxy ?_
     have fz:=nt
     refine tgC ?_
     refine zK ⟨rfl,by simp [zJ],?_⟩
     refine goC 60 ?_
     refine zm (d++[x],r,s,iAdd .i64 i 1) ⟨by simp [g1],by simp [g2,hxy],hi2⟩ (by simp) (eS [] [])
end Go.Am
end
