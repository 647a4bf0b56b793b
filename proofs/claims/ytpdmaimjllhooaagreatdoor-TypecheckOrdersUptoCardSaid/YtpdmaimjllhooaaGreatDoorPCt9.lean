/- Contracts of the program's functions. -/
import Derived.Test.YtpdmaimjllhooaaGreatDoorCards
import Derived.Test.YtpdmaimjllhooaaGreatDoorProg
import Derived.Test.YtpdmaimjllhooaaGreatDoorRows
import Derived.Test.YtpdmaimjllhooaaGreatDoorTie
import Derived.Test.YtpdmaimjllhooaaGreatDoorPCt7
import Derived.Test.YtpdmaimjllhooaaGreatDoorPCt6
section
set_option maxHeartbeats 16000000
set_option maxRecDepth 100000
namespace Go.Am
open Go.Proofs
theorem P_CheckAll (l:List Sch) (hl:l.length<1152921504606846976) (hs:∀ q∈l,q.Short):PCall EE 73 [.isl 2 (mapE Sch.enc l)] (int (zU l)):=by
 have kcl:=Sch.closedI l
 rw [zU]
 refine zt ?_;unhygienic intros
 generalize hes:mapE Sch.enc l=es at *
 have hel:es.length=l.length:=by rw [← hes,zr]
 by_cases h8:16<l.length
 · have k8:iLt 16 (lenA es)=true:=by simp only [ee];simp;omega
   rw [if_pos h8]
   refine fB T73 [.t 2] ?_
   have fz:=k8
   refine Cq ?_
   refine Aq ?_
   exact fV
 have k8:iLt 16 (lenA es)=false:=by simp only [ee];simp;omega
 rw [if_neg h8]
 refine fB T73 [.t 2] ?_
 have fz:=k8
 refine Cq ?_
 refine Aq ?_
 refine za (ι:=List Sch × List Sch × Int × List (AV × AV)) (fun p=>([(13,int p.2.2.1),(12,int (lenA es)),(11,.isl 2 es),(3,.amap 0)],[.amap p.2.2.2])) (fun p=>l=p.1++p.2.1∧p.2.2.1=p.1.length∧p.2.2.2=ents (p.1.map Sch.nm)∧ud [] l=ud (p.1.map Sch.nm) p.2.1) (fun p=>p.2.1.length) ([],l,0,[]) ⟨rfl,rfl,rfl,rfl⟩ ?_ ?_
 · have kcM:y3 []=true:=rfl
   exact (eS [.to 0] [some 0])
 rintro ⟨d,r,i,m⟩ ⟨g1,gi,gm,gc⟩
 dsimp only at g1 gi gm gc ⊢
 cases r with
 | nil =>
  have L1:=zw g1
  try simp only [List.length] at L1
  have hc:iLt i (lenA es)=false:=xg e_iLt e_lenA (by omega)
  rw [gc,ud]
  have fz:=hc
  refine Cq ?_
  refine Aq ?_
  refine zl ?_
  refine Aq ?_
  exact fV
 | cons f r =>
  have L1:=zw g1
  try simp only [List.length] at L1
  have hc:iLt i (lenA es)=true:=xf e_iLt e_lenA (by omega)
  have hat:=z7 e_atA hes g1 gi
  have hi2:iAdd .i64 i 1=((d++[f]).length:Int):=by rw [List.length_append];exact yq e_iAdd gi (by omega)
  have pf:=P_Check f (hs f (by rw [g1];simp))
  have gc2:ud (d.map Sch.nm++[f.nm]) r=ud ((d++[f]).map Sch.nm) r:=by simp
  rw [ud,gc2] at gc
  rw [gc]
  clear hs
  rw [Sch.enc_eq] at hat pf
  have kcf:=Fld.closedI f.fs
  have kokL:mOkL true m (str (ba f.nm))=true:=by rw [gm];exact ut _ _
  have kok:mOk true m (str (ba f.nm))=true:=by simp only [ee];rw [gm];exact ut _ _
  have kget:mGet true m (str (ba f.nm)) (bool false)=bool (decide (f.nm∈d.map Sch.nm)):=by simp only [ee];rw [gm];exact uZ _ _
  have kput:f.nm∉d.map Sch.nm→mPut true m (str (ba f.nm)) (bool true)=ents ((d++[f]).map Sch.nm):=fun h=>by simp only [ee];rw [gm,uU _ _ h];simp
  have kk1:f.chk≠0→iNe f.chk 0=true:=fun h=>by simp only [ee];simpa using h
  have kk2:¬ f.chk≠0→iNe f.chk 0=false:=fun h=>by simp only [ee];simpa using h
  clear gc2
  generalize mapE Fld.enc f.fs=fe at *
  generalize f.chk=fc at *
  generalize hin:decide (f.nm∈d.map Sch.nm)=bi at *
  generalize ba f.nm=fs at *
  have kcA:AV.closedL [str fs,.isl 2 fe]=true:=by simp [AV.closedL,y6,kcf]
  by_cases n0:fc≠0
  · have k0:=kk1 n0
    rw [if_pos n0]
    clear kk1 kk2 kput kokL kget kok gc
    have fz:=And.intro hc (And.intro hat k0)
    refine Cq ?_
    refine Cr ?_
    refine oPA pf ?_
    refine Cq ?_
    refine Aq ?_
    refine zi ?_
    refine Aq ?_
    exact fV
  have k0:=kk2 n0
  rw [if_neg n0] at gc ⊢
  clear kk1 kk2
  cases bi with
  | true =>
   rw [if_pos (of_decide_eq_true hin)]
   clear kput kokL gc
   have fz:=And.intro hc (And.intro hat (And.intro k0 (And.intro kget kok)))
   refine Cq ?_
   refine Cr ?_
   refine oPA pf ?_
   refine Cq ?_
   refine Cr ?_
   refine Aq ?_
   refine zi ?_
   refine Aq ?_
   exact fV
  | false =>
  rw [if_neg (of_decide_eq_false hin)] at gc ⊢
  have kp:=kput (of_decide_eq_false hin)
  clear kput
  have kcM:y3 (mPut true m (str fs) (bool true))=true:=by rw [kp];exact uS _
  have fz:=And.intro hc (And.intro hat (And.intro k0 (And.intro kget kok)))
  refine Cq ?_
  refine Cr ?_
  refine oPA pf ?_
  refine Cq ?_
  refine Cr ?_
  refine go rfl hX 60 (by conv=>lhs;cbv) ?_ ?_
  · simp only [ee];simp only [kokL];trivial
  refine zp (d++[f],r,iAdd .i64 i 1,mPut true m (str fs) (bool true)) ⟨by simp [g1],hi2,kp,gc ▸ rfl⟩ (by simp) (eS [.to 0,.gone] [some 0])
theorem whF_in {nm:Bs}:∀ (d r:List Sch) (i:Int),nm∈d.map Sch.nm→whF nm (d++r) i<i+d.length
 | [],_,_,h=>by simp at h
 | f :: d,r,i,h=>by
  rw [List.cons_append,whF]
  by_cases e:f.nm=nm
  · rw [if_pos e];simp;omega
  rw [if_neg e]
  have:=whF_in d r (i+1) (by simpa [Ne.symm e] using h)
  simp only [List.length_cons];omega
theorem wh_lt {l d r:List Sch} {f:Sch} (h:l=d++f :: r):decide (Sch.wh l f.nm<(d.length:Int))=decide (f.nm∈d.map Sch.nm):=by
 apply decide_eq_decide.2
 constructor
 · intro h1
   refine Classical.byContradiction fun h2=>?_
   have:=wh_hit h (fun g hg e=>h2 (List.mem_map.2 ⟨g,hg,e⟩)) rfl
   omega
 intro h1
 have:=whF_in d (f :: r) 0 h1
 rw [Sch.wh,h];omega
theorem P_refCheckAll (l:List Sch) (hl:l.length<1152921504606846976) (hs:∀ q∈l,q.Short):PCall EE 30 [.isl 2 (mapE Sch.enc l)] (int (zU l)):=by
 have kcl:=Sch.closedI l
 have pp:=fun nm=>P_Where l nm hl
 rw [zU]
 refine zt ?_;unhygienic intros
 generalize hes:mapE Sch.enc l=es at *
 have hel:es.length=l.length:=by rw [← hes,zr]
 by_cases h8:16<l.length
 · have k8:iLt 16 (lenA es)=true:=by simp only [ee];simp;omega
   rw [if_pos h8]
   clear pp
   refine fB T30 [.t 2] ?_
   have fz:=k8
   refine Cq ?_
   refine Aq ?_
   exact fV
 have k8:iLt 16 (lenA es)=false:=by simp only [ee];simp;omega
 rw [if_neg h8]
 refine fB T30 [.t 2] ?_
 have fz:=k8
 refine Cq ?_
 refine Aq ?_
 refine za (ι:=List Sch × List Sch × Int) (fun p=>([(3,int p.2.2),(0,.isl 2 es)],[])) (fun p=>l=p.1++p.2.1∧p.2.2=p.1.length∧ud [] l=ud (p.1.map Sch.nm) p.2.1) (fun p=>p.2.1.length) ([],l,0) ⟨rfl,rfl,rfl⟩ ?_ ?_
 · exact (eS [] [])
 rintro ⟨d,r,i⟩ ⟨g1,gi,gc⟩
 dsimp only at g1 gi gc ⊢
 cases r with
 | nil =>
  have L1:=zw g1
  try simp only [List.length] at L1
  have hc:iLt i (lenA es)=false:=xg e_iLt e_lenA (by omega)
  rw [gc,ud]
  have fz:=hc
  refine Cq ?_
  refine Aq ?_
  refine zl ?_
  refine Aq ?_
  exact fV
 | cons f r =>
  have L1:=zw g1
  try simp only [List.length] at L1
  have hc:iLt i (lenA es)=true:=xf e_iLt e_lenA (by omega)
  have hat:=z7 e_atA hes g1 gi
  have hi2:iAdd .i64 i 1=((d++[f]).length:Int):=by rw [List.length_append];exact yq e_iAdd gi (by omega)
  have pf:=P_refCheck f (hs f (by rw [g1];simp))
  have pq:=pp f.nm
  have gc2:ud (d.map Sch.nm++[f.nm]) r=ud ((d++[f]).map Sch.nm) r:=by simp
  rw [ud,gc2] at gc
  rw [gc]
  clear hs pp
  rw [Sch.enc_eq] at hat pf
  have kcf:=Fld.closedI f.fs
  have kpos:iLt (Sch.wh l f.nm) i=decide (f.nm∈d.map Sch.nm):=by simp only [ee];rw [gi];exact wh_lt g1
  have kk1:f.chk≠0→iNe f.chk 0=true:=fun h=>by simp only [ee];simpa using h
  have kk2:¬ f.chk≠0→iNe f.chk 0=false:=fun h=>by simp only [ee];simpa using h
  clear gc2
  generalize mapE Fld.enc f.fs=fe at *
  generalize f.chk=fc at *
  generalize hin:decide (f.nm∈d.map Sch.nm)=bi at *
  generalize Sch.wh l f.nm=P at *
  generalize ba f.nm=fs at *
  have kcA:AV.closedL [str fs,.isl 2 fe]=true:=by simp [AV.closedL,y6,kcf]
  by_cases n0:fc≠0
  · have k0:=kk1 n0
    rw [if_pos n0]
    clear kk1 kk2 kpos gc
    have fz:=And.intro hc (And.intro hat k0)
    refine Cq ?_
    refine Cr ?_
    refine oPA pf ?_
    refine Cq ?_
    refine Aq ?_
    refine zi ?_
    refine Aq ?_
    exact fV
  have k0:=kk2 n0
  rw [if_neg n0] at gc ⊢
  clear kk1 kk2
  cases bi with
  | true =>
   rw [if_pos (of_decide_eq_true hin)]
   clear gc
   have fz:=And.intro hc (And.intro hat (And.intro k0 kpos))
   refine Cq ?_
   refine Cr ?_
   refine oPA pf ?_
   refine Cq ?_
   refine Cr ?_
   refine oPA pq ?_
   refine Cq ?_
   refine Aq ?_
   refine zi ?_
   refine Aq ?_
   exact fV
  | false =>
  rw [if_neg (of_decide_eq_false hin)] at gc ⊢
  have fz:=And.intro hc (And.intro hat (And.intro k0 kpos))
  refine Cq ?_
  refine Cr ?_
  refine oPA pf ?_
  refine Cq ?_
  refine Cr ?_
  refine oPA pq ?_
  refine Cq ?_
  refine Aq ?_
  refine zp (d++[f],r,iAdd .i64 i 1) ⟨by simp [g1],hi2,gc ▸ rfl⟩ (by simp) (eS [] [])
theorem P_ref08_node (e:Ex) (hlen:e.args.length<1048576):PCall EE 162 [e.enc] (int e.nodeE):=by
 have hu:=P_ref08_uses e.op
 have har:=P_ref08_arity e.op
 have hk:=P_ref01_Check e.val
 have hsu:=P_ref07_Suits e.kind e.val
 have h0:=@Vl.eq0 e.val
 have hcl:=Ex.closed e
 obtain ⟨R,hR⟩:∃ R,R=e.nodeE:=⟨_,rfl⟩
 rw [← hR]
 have hss:1≤e.kind→vJ e.kind e.val=uB e.kind e.val:=fun h=>by
  unfold vJ uB;rw [Bool.eq_iff_iff];simp;omega
 have hab:wD e.op=decide (0≤vK e.op):=by
  unfold wD vK;rw [Bool.eq_iff_iff];simp;(repeat' split)<;>omega
 have han:0≤vK e.op→wC e.op=vK e.op:=fun h=>by
  unfold vK at h;unfold wC vK;(repeat' split)<;>simp_all
 have hvl:e.val.enc=.agg [int e.val.kind,int e.val.num,str e.val.text]:=rfl
 rw [hvl] at hk hsu
 unfold Ex.nodeE Ex.formB Ex.consE at hR
 generalize vp e.op=uv at *
 generalize vM e.op=uf at *
 generalize wC e.op=an at *
 generalize wD e.op=ab at *
 generalize vK e.op=ar at *
 generalize vJ e.kind e.val=sf at *
 generalize uB e.kind e.val=sr at *
 generalize e.val.chk=ck at *
 obtain ⟨o,a,v,f,k,⟨xk,xn,xt⟩⟩:=e
 simp only [Ex.op,Ex.kind,Ex.val,Ex.args,Ex.var,Ex.fld] at *
 rw [Ex.enc_mk] at hcl ⊢
 dsimp only at *
 refine zt ?_;unhygienic intros
 generalize hes:mapE Ex.enc a=es at *
 have hel:es.length=a.length:=by rw [← hes,zr]
 refine fB T162 [.t 2] ?_
 refine Aq ?_
 refine oPA har ?_
 refine goA 0 ?_
 refine oC (fun c1=>?_) fun c1=>?_
 ·
  simp [ee] at c1
  refine Aq ?_
  exact fG
 simp [ee] at c1
 refine goA 0 ?_
 refine oC (fun c2=>?_) fun c2=>?_
 ·
  simp [ee] at c2
  refine Aq ?_
  exact fG
 simp [ee] at c2
 refine Aq ?_
 refine oPA hu ?_
 refine goA 0 ?_
 refine nsB hX (by conv=>lhs;cbv) ?_
 refine goA 0 ?_
 refine nsB hX (by conv=>lhs;cbv) ?_
 refine goA 0 ?_
 refine oC (fun c3=>?_) fun c3=>?_
 ·
  simp [ee] at c3
  refine Aq ?_
  exact fG
 simp [ee] at c3
 refine goA 0 ?_
 refine nsB hX (by conv=>lhs;cbv) ?_
 refine goA 0 ?_
 refine oC (fun c4=>?_) fun c4=>?_
 ·
  simp [ee] at c4
  refine Aq ?_
  exact fG
 simp [ee] at c4
 refine goA 0 ?_
 refine oC (fun c5=>?_) fun c5=>?_
 ·
  simp [ee] at c5
  refine Aq ?_
  refine oPA hk ?_
  refine goA 0 ?_
  refine oC (fun c6=>?_) fun c6=>?_
  ·
   simp [ee] at c6
   refine Aq ?_
   exact fG
  simp [ee] at c6
  refine goA 0 ?_
  refine zj rfl rfl (fun c7=>?_) (fun c7=>?_)
  ·
   simp [ee] at c7
   refine Aq ?_
   refine oPG hsu ?_
   refine goA 0 ?_
   refine goA 1 ?_
   refine goA 1 ?_
   refine nsB hX (by conv=>lhs;cbv) ?_
   refine goA 0 ?_
   refine oC (fun c8=>?_) fun c8=>?_
   ·
    simp [ee] at c8
    refine Aq ?_
    exact fG
   simp [ee] at c8
   refine goA 0 ?_
   refine nsB hX (by conv=>lhs;cbv) ?_
   refine goA 0 ?_
   refine nsB hX (by conv=>lhs;cbv) ?_
   refine goA 0 ?_
   refine nsB hX (by conv=>lhs;cbv) ?_
   refine goA 0 ?_
   refine oC (fun c9=>?_) fun c9=>?_
   ·
    simp [ee] at c9
    refine Aq ?_
    exact fG
   simp [ee] at c9
   refine Aq ?_
   exact fG
  simp [ee] at c7
  refine Aq ?_
  refine zg rfl rfl ?_
  refine goA 0 ?_
  refine goA 1 ?_
  refine nsB hX (by conv=>lhs;cbv) ?_
  refine goA 0 ?_
  refine nsB hX (by conv=>lhs;cbv) ?_
  refine goA 0 ?_
  refine nsB hX (by conv=>lhs;cbv) ?_
  refine goA 0 ?_
  refine oC (fun c10=>?_) fun c10=>?_
  ·
   simp [ee] at c10
   refine Aq ?_
   exact fG
  simp [ee] at c10
  refine Aq ?_
  exact fG
 simp [ee] at c5
 refine goA 0 ?_
 refine zj rfl rfl (fun c11=>?_) (fun c11=>?_)
 ·
  simp [ee] at c11
  refine Aq ?_
  refine oPG hsu ?_
  refine goA 0 ?_
  refine goA 1 ?_
  refine goA 1 ?_
  refine nsB hX (by conv=>lhs;cbv) ?_
  refine goA 0 ?_
  refine oC (fun c12=>?_) fun c12=>?_
  ·
   simp [ee] at c12
   refine Aq ?_
   exact fG
  simp [ee] at c12
  refine goA 0 ?_
  refine nsB hX (by conv=>lhs;cbv) ?_
  refine goA 0 ?_
  refine nsB hX (by conv=>lhs;cbv) ?_
  refine goA 0 ?_
  refine nsB hX (by conv=>lhs;cbv) ?_
  refine goA 0 ?_
  refine oC (fun c13=>?_) fun c13=>?_
  ·
   simp [ee] at c13
   refine Aq ?_
   exact fG
  simp [ee] at c13
  refine Aq ?_
  exact fG
 simp [ee] at c11
 refine Aq ?_
 refine zg rfl rfl ?_
 refine goA 0 ?_
 refine goA 1 ?_
 refine nsB hX (by conv=>lhs;cbv) ?_
 refine goA 0 ?_
 refine nsB hX (by conv=>lhs;cbv) ?_
 refine goA 0 ?_
 refine nsB hX (by conv=>lhs;cbv) ?_
 refine goA 0 ?_
 refine oC (fun c14=>?_) fun c14=>?_
 ·
  simp [ee] at c14
  refine Aq ?_
  exact fG
 simp [ee] at c14
 refine Aq ?_
 exact fG
theorem P_ref08_nodes : ∀ e:Ex,e.Sm→PCall EE 135 [e.enc] (int (zu Ex.nodeE e.nodes)):=by
 refine Ex.ind ?_
 intro o a v f k x ih hs
 have hlen:=hs.len
 have hih:∀ q∈a,PCall EE 135 [q.enc] (int (zu Ex.nodeE q.nodes)):=fun q hq=>ih q hq (hs.arg hq)
 have hcl:=Ex.closedI a
 have hh:=P_ref08_node (.mk o a v f k x) (by exact hlen)
 have hpc:=Ex.closed (.mk o a v f k x)
 rw [Ex.nodes]
 obtain ⟨R,hR⟩:∃ R,R=zu Ex.nodeE (Ex.mk o a v f k x :: Ex.nodesL a):=⟨_,rfl⟩
 rw [← hR]
 rw [zu] at hR
 obtain ⟨xk,xn,xt⟩:=x
 rw [Ex.enc_mk] at hpc hh ⊢
 dsimp only at hpc hh ⊢
 clear ih hs
 refine zt ?_;unhygienic intros
 generalize hes:mapE Ex.enc a=es at *
 have hel:es.length=a.length:=by rw [← hes,zr]
 generalize (Ex.mk o a v f k { kind:=xk,num:=xn,text:=xt }).nodeE=fp at *
 refine fB T135 [.t 2] ?_
 by_cases h1:fp=0
 rotate_left
 · have w1:iNe fp 0=true:=by simp only [ee];simpa using h1
   have hR:R=fp:=by rw [hR,if_pos h1]
   refine Aq ?_
   refine oPA hh ?_
   have fz:=w1
   refine Cq ?_
   refine Aq ?_
   exact fI (h:=hR.symm)
 have w1:iNe fp 0=false:=by simp only [ee];simpa using h1
 have hR:R=zu Ex.nodeE (Ex.nodesL a):=by rw [hR,if_neg (by simpa using h1)]
 refine Aq ?_
 refine oPA hh ?_
 have fz:=w1
 refine Cq ?_
 refine Aq ?_
 refine za (ι:=List Ex × List Ex × Int) (fun p=>([(4,int p.2.2),(1,.ptr 0 0)],[.cells [int o,.isl 8 es,int v,int f,int k,int xk,int xn,str xt]])) (fun p=>a=p.1++p.2.1∧p.2.2=p.1.length∧R=zu Ex.nodeE (Ex.nodesL p.2.1)) (fun p=>p.2.1.length) ([],a,0) ⟨rfl,rfl,hR⟩ ?_ ?_
 · exact (eS [.to 0] [some 0])
 rintro ⟨d,r,i⟩ ⟨g1,gi,gR⟩
 dsimp only at g1 gi gR ⊢
 cases r with
 | nil =>
  have L1:=zw g1
  try simp only [List.length] at L1
  have hc:iLt i (lenA es)=false:=xg e_iLt e_lenA (by omega)
  have gR:R=0:=gR
  have fz:=hc
  refine Cq ?_
  refine Aq ?_
  refine zl ?_
  refine Aq ?_
  exact fI (h:=gR.symm)
 | cons q r =>
  have L1:=zw g1
  try simp only [List.length] at L1
  have hc:iLt i (lenA es)=true:=xf e_iLt e_lenA (by omega)
  have hat:=z7 e_atA hes g1 gi
  have hq:=hih q (by rw [g1];simp)
  have hqc:=Ex.closed q
  rw [Ex.nodesL,yr] at gR
  obtain ⟨qO,qA,qV,qF,qK,qXk,qXn,qXt,hx⟩:=Ex.form q
  rw [hx] at hat hqc hq
  have hi2:iAdd .i64 i 1=((d++[q]).length:Int):=by rw [List.length_append];exact yq e_iAdd gi (by omega)
  generalize zu Ex.nodeE q.nodes=fq at *
  by_cases h2:fq=0
  · have w2:iNe fq 0=false:=by simp only [ee];simpa using h2
    rw [if_neg (by simpa using h2)] at gR
    have fz:=And.intro hc (And.intro hat w2)
    refine Cq ?_
    refine Cr ?_
    refine oPA hq ?_
    refine Cq ?_
    refine Aq ?_
    refine zp (d++[q],r,iAdd .i64 i 1) ⟨by simp [g1],hi2,gR⟩ (by simp) (eS [.to 0] [some 0])
  have w2:iNe fq 0=true:=by simp only [ee];simpa using h2
  rw [if_pos h2] at gR
  have fz:=And.intro hc (And.intro hat w2)
  refine Cq ?_
  refine Cr ?_
  refine oPA hq ?_
  refine Cq ?_
  refine Aq ?_
  refine zi ?_
  refine Aq ?_
  exact fI (h:=gR.symm)
theorem P_ref08_Check (e:Ex) (hs:e.Sm):PCall EE 92 [e.enc] (int e.chk):=by
 have h1:=P_ref08_Count 64 (by decide) e hs
 have h2:=P_ref08_Depth e hs
 have h3:=P_ref08_nodes e hs
 have htot:=Ex.tot_iff e 64
 have hcl:=Ex.closed e
 obtain ⟨R,hR⟩:∃ R,R=e.chk:=⟨_,rfl⟩
 rw [← hR]
 unfold Ex.chk at hR
 obtain ⟨tt,htt⟩:∃ z:Int,z=e.tot 64:=⟨_,rfl⟩
 obtain ⟨dp,hdp⟩:∃ z:Int,z=e.dep:=⟨_,rfl⟩
 rw [← htt] at h1
 rw [← hdp] at h2
 generalize zu Ex.nodeE e.nodes=fe at *
 obtain ⟨eO,eA,eV,eF,eK,eXk,eXn,eXt,hx⟩:=Ex.form e
 rw [hx] at h1 h2 h3 hcl ⊢
 refine zt ?_;unhygienic intros
 refine fB T92 [.t 2] ?_
 by_cases g1:tt≤64
 rotate_left
 · have k1:iLt 64 tt=true:=by simp only [ee];simp;omega
   rw [if_pos (by omega)] at hR
   refine Aq ?_
   refine oPA h1 ?_
   have fz:=k1
   refine Cq ?_
   refine Aq ?_
   exact fI (h:=hR.symm)
 have k1:iLt 64 tt=false:=by simp only [ee];simp;omega
 rw [if_neg (by omega)] at hR
 by_cases g2:dp≤12
 rotate_left
 · have k2:iLt 12 dp=true:=by simp only [ee];simp;omega
   rw [if_pos (by omega)] at hR
   refine Aq ?_
   refine oPA h1 ?_
   have fz:=And.intro k1 k2
   refine Cq ?_
   refine Aq ?_
   refine oPA h2 ?_
   refine Cq ?_
   refine Aq ?_
   exact fI (h:=hR.symm)
 have k2:iLt 12 dp=false:=by simp only [ee];simp;omega
 rw [if_neg (by omega)] at hR
 refine Aq ?_
 refine oPA h1 ?_
 have fz:=And.intro k1 k2
 refine Cq ?_
 refine Aq ?_
 refine oPA h2 ?_
 refine Cq ?_
 refine Aq ?_
 refine oPA h3 ?_
 refine Aq ?_
 exact fI (h:=hR.symm)
theorem P_ref08_Same : ∀ x y:Ex,x.Sm→PCall EE 129 [x.enc,y.enc] (bool (eqB x y)):=by
 refine Ex.ind ?_
 intro o a v f k x ih y hs
 obtain ⟨o2,a2,v2,f2,k2,x2⟩:=y
 obtain ⟨xk,xn,xt⟩:=x
 obtain ⟨yk,yn,yt⟩:=x2
 have hlen:=hs.len
 have hih:∀ q∈a,∀ q2,PCall EE 129 [q.enc,q2.enc] (bool (eqB q q2)):=fun q hq q2=>ih q hq q2 (hs.arg hq)
 have hcl:=Ex.closedI a
 have hcl2:=Ex.closedI a2
 obtain ⟨R,hR⟩:∃ R,R=eqB (Ex.mk o a v f k ⟨xk,xn,xt⟩) (Ex.mk o2 a2 v2 f2 k2 ⟨yk,yn,yt⟩):=⟨_,rfl⟩
 rw [← hR,Ex.enc_mk,Ex.enc_mk]
 clear ih hs
 refine zt ?_;unhygienic intros
 generalize hes:mapE Ex.enc a=es at *
 generalize hes2:mapE Ex.enc a2=es2 at *
 have hel:es.length=a.length:=by rw [← hes,zr]
 have hel2:es2.length=a2.length:=by rw [← hes2,zr]
 refine fB T129 [.t 4] ?_
 refine goA 0 ?_
 refine oC (fun c1=>?_) fun c1=>?_
 · simp [ee] at c1
   have hR:R=false:=by
    rw [hR];refine ul fun h=>?_
    simp only [Ex.mk.injEq,Vl.mk.injEq] at h
    obtain ⟨rfl,rfl,rfl,rfl,rfl,rfl,rfl,rfl⟩:=h
    simp [hel,hel2] at c1
   refine Aq ?_
   exact fBo (h:=hR.symm)
 simp [ee] at c1
 obtain ⟨⟨⟨⟨⟨h1,h2⟩,h3⟩,h4⟩,⟨h5,h6,h7⟩⟩,h8⟩:=c1
 have h7:=u7 h7
 subst h1 h2 h3 h4 h5 h6 h7
 have hl8:a.length=a2.length:=by omega
 have hR:R=eqB a a2:=by
  rw [hR]
  by_cases h:a=a2
  · rw [h,uP rfl,uP rfl]
  rw [ul h,ul (by simp [h])]
 refine Aq ?_
 refine za (ι:=List Ex × List Ex × List Ex × List Ex × Int) (fun p=>([(5,int p.2.2.2.2),(2,.ptr 0 0),(3,.ptr 1 0)],[.cells [int o,.isl 8 es,int v,int f,int k,int xk,int xn,str xt],.cells [int o,.isl 8 es2,int v,int f,int k,int xk,int xn,str xt]])) (fun p=>a=p.1++p.2.1∧a2=p.2.2.1++p.2.2.2.1∧p.2.2.2.2=p.1.length∧p.1=p.2.2.1) (fun p=>p.2.1.length) ([],a,[],a2,0) ⟨rfl,rfl,rfl,rfl⟩ ?_ ?_
 · exact (eS [.to 0,.to 1] [some 0,some 1])
 rintro ⟨d,r,d2,r2,i⟩ ⟨g1,g2,gi,gd⟩
 dsimp only at g1 g2 gi gd ⊢
 subst gd
 cases r with
 | nil =>
  have L1:=zw g1
  try simp only [List.length] at L1
  have hc:iLt i (lenA es)=false:=xg e_iLt e_lenA (by omega)
  have L2:=zw g2
  try simp only [List.length] at L2
  have hr2:r2=[]:=List.length_eq_zero_iff.1 (by omega)
  have hR:R=true:=by rw [hR];exact uP (by rw [g1,g2,hr2])
  have fz:=hc
  refine Cq ?_
  refine Aq ?_
  refine zl ?_
  refine Aq ?_
  exact fBo (h:=hR.symm)
 | cons q r =>
  have L1:=zw g1
  try simp only [List.length] at L1
  have hc:iLt i (lenA es)=true:=xf e_iLt e_lenA (by omega)
  have hat:=z7 e_atA hes g1 gi
  have L2:=zw g2
  try simp only [List.length] at L2
  cases r2 with
  | nil=>exfalso;simp at L2;omega
  | cons q2 r2 =>
   have hat2:=z7 e_atA hes2 g2 gi
   have hq:=hih q (by rw [g1];simp) q2
   have hqc:=Ex.closed q
   have hqc2:=Ex.closed q2
   obtain ⟨qO,qA,qV,qF,qK,qXk,qXn,qXt,hx⟩:=Ex.form q
   obtain ⟨q2O,q2A,q2V,q2F,q2K,q2Xk,q2Xn,q2Xt,hx2⟩:=Ex.form q2
   rw [hx,hx2] at hq
   rw [hx] at hat hqc
   rw [hx2] at hat2 hqc2
   have hi2:iAdd .i64 i 1=((d++[q]).length:Int):=by rw [List.length_append];exact yq e_iAdd gi (by omega)
   by_cases hqq:q=q2
   · rw [uP hqq] at hq
     have hn:bNot true=false:=by simp [ee]
     have fz:=And.intro hc (And.intro hat (And.intro hat2 hn))
     refine Cq ?_
     refine Cr ?_
     refine zP rfl (by conv=>lhs;cbv) rfl ?_
     refine tgC ?_
     refine oPT hq ?_
     refine tgA ?_
     refine zH ⟨rfl,?_,?_⟩
     · simp only [zK,zV,List.cons_append,List.nil_append,List.append_nil];and_intros<;>first | trivial | (intro hp;first | rfl | exact absurd (show false=true from hp) Bool.false_ne_true)
     refine Cq ?_
     refine Aq ?_
     refine zp (d++[q],r,d++[q2],r2,iAdd .i64 i 1) ⟨by simp [g1],by simp [g2],hi2,by simp [hqq]⟩ (by simp) (eS [.to 0,.to 1] [some 0,some 1])
   rw [ul hqq] at hq
   have hn:bNot false=true:=by simp [ee]
   have hR:R=false:=by rw [hR];exact ul (by rw [g1,g2];simp [hqq])
   have fz:=And.intro hc (And.intro hat (And.intro hat2 hn))
   refine Cq ?_
   refine Cr ?_
   refine zP rfl (by conv=>lhs;cbv) rfl ?_
   refine tgC ?_
   refine oPT hq ?_
   refine tgA ?_
   refine zH ⟨rfl,?_,?_⟩
   · simp only [zK,zV,List.cons_append,List.nil_append,List.append_nil];and_intros<;>first | trivial | (intro hp;first | rfl | exact absurd (show false=true from hp) Bool.false_ne_true)
   refine Cq ?_
   refine Aq ?_
   refine zi ?_
   refine Aq ?_
   exact fBo (h:=hR.symm)
theorem P_Negates (p:Pat):PCall EE 105 [p.enc] (bool (decide (p.op=5∨p.op=9))):=by
 obtain ⟨R,hR⟩:∃ R,R=decide (p.op=5∨p.op=9):=⟨_,rfl⟩
 rw [← hR]
 have hcl:=Pat.closed p
 obtain ⟨pO,pA,pT,pV,pS,pN,pCo,pCa,pCv,pCf,pCk,pXk,pXn,pXt,hx,hxc,hpO,hpA,hpT,hpV,hpS,hpN⟩:=Pat.form2 p
 rw [hx] at hcl ⊢
 rw [← hpO] at hR
 refine zt ?_;unhygienic intros
 refine fB T105 [.t 2] ?_
 refine Aq ?_
 exact fBo (h:=by rw [hR,Bool.eq_iff_iff];simp only [ee];simp)
theorem P_Times (p:Pat):PCall EE 106 [p.enc] (bool (xx p.op)):=by
 obtain ⟨R,hR⟩:∃ R,R=xx p.op:=⟨_,rfl⟩
 rw [← hR]
 unfold xx at hR
 have hcl:=Pat.closed p
 obtain ⟨pO,pA,pT,pV,pS,pN,pCo,pCa,pCv,pCf,pCk,pXk,pXn,pXt,hx,hxc,hpO,hpA,hpT,hpV,hpS,hpN⟩:=Pat.form2 p
 rw [hx] at hcl ⊢
 rw [← hpO] at hR
 refine zt ?_;unhygienic intros
 refine fB T106 [.t 2] ?_
 refine Aq ?_
 exact fBo (h:=by rw [hR,Bool.eq_iff_iff];simp only [ee];simp)
theorem P_variable (p:Pat):PCall EE 104 [p.enc] (bool (zJ p.op)):=by
 have h1:=P_Negates p
 obtain ⟨R,hR⟩:∃ R,R=zJ p.op:=⟨_,rfl⟩
 rw [← hR]
 unfold zJ at hR
 have hcl:=Pat.closed p
 obtain ⟨pO,pA,pT,pV,pS,pN,pCo,pCa,pCv,pCf,pCk,pXk,pXn,pXt,hx,hxc,hpO,hpA,hpT,hpV,hpS,hpN⟩:=Pat.form2 p
 rw [hx] at h1 hcl ⊢
 rw [← hpO] at hR h1
 refine zt ?_;unhygienic intros
 refine fB T104 [.t 2] ?_
 refine goA 0 ?_
 refine zj rfl rfl (fun c1=>?_) (fun c1=>?_)
 ·
  simp [ee] at c1
  refine Aq ?_
  exact fBo (h:=by rw [hR];clear ee hX;grind)
 simp [ee] at c1
 refine Aq ?_
 refine oPG h1 ?_
 refine Aq ?_
 exact fBo (h:=by rw [hR];clear ee hX;grind)
theorem P_condition (p:Pat):PCall EE 127 [p.enc] (bool (xP p.op)):=by
 have h1:=P_variable p
 obtain ⟨R,hR⟩:∃ R,R=xP p.op:=⟨_,rfl⟩
 rw [← hR]
 have h2:xP p.op=(zJ p.op || decide (p.op=7)):=by unfold xP zJ;rw [Bool.eq_iff_iff];simp;omega
 rw [h2] at hR
 generalize zJ p.op=ty at *
 have hcl:=Pat.closed p
 obtain ⟨pO,pA,pT,pV,pS,pN,pCo,pCa,pCv,pCf,pCk,pXk,pXn,pXt,hx,hxc,hpO,hpA,hpT,hpV,hpS,hpN⟩:=Pat.form2 p
 rw [hx] at h1 hcl ⊢
 rw [← hpO] at hR
 refine zt ?_;unhygienic intros
 refine fB T127 [.t 2] ?_
 refine Aq ?_
 refine oPA h1 ?_
 refine Aq ?_
 exact fBo (h:=by rw [hR];first | (rw [Bool.eq_iff_iff];simp only [ee];simp;done) | (simp only [ee] at *;simp at *;simp [*]))
theorem tM (u:Bool) (n m:Int):PCall EE 128 [bool u,int n,int m] (bool (u && decide (n<0∨m<n))):=by
 obtain ⟨R,hR⟩:∃ R,R=(u && decide (n<0∨m<n)):=⟨_,rfl⟩
 rw [← hR]
 refine zt ?_;unhygienic intros
 refine fB T128 [.t 6] ?_
 refine goA 0 ?_
 refine nsB hX (by conv=>lhs;cbv) ?_
 refine Aq ?_
 exact fBo (h:=by rw [hR];first | (rw [Bool.eq_iff_iff];simp only [ee];simp;done) | (simp only [ee] at *;simp at *;simp [*]))
theorem P_ref09_arity (p:Pat) (_hlen:p.args.length<1048576):PCall EE 126 [p.enc] (bool (decide (if p.op=0 then p.args.length=0 else if p.op=1∨p.op=2∨p.op=3 then 2≤p.args.length else if p.op=8 then p.args.length=2 else p.args.length=1))):=by
 obtain ⟨R,hR⟩:∃ R,R=(decide (if p.op=0 then p.args.length=0 else if p.op=1∨p.op=2∨p.op=3 then 2≤p.args.length else if p.op=8 then p.args.length=2 else p.args.length=1)):=⟨_,rfl⟩
 rw [← hR]
 have hcl:=Pat.closed p
 obtain ⟨pO,pA,pT,pV,pS,pN,pCo,pCa,pCv,pCf,pCk,pXk,pXn,pXt,hx,hxc,hpO,hpA,hpT,hpV,hpS,hpN⟩:=Pat.form2 p
 have hel:pA.length=p.args.length:=by rw [hpA,zr]
 rw [hx] at hcl ⊢
 rw [← hpO] at hR
 clear hpA
 generalize p.args.length=n at *
 refine zt ?_;unhygienic intros
 refine fB T126 [.t 2] ?_
 refine goA 0 ?_
 refine oC (fun c1=>?_) fun c1=>?_
 ·
  simp [ee] at c1
  refine Aq ?_
  exact fBo (h:=by rw [hR,Bool.eq_iff_iff];simp only [ee];clear ee hX;simp;grind)
 simp [ee] at c1
 refine goA 0 ?_
 refine oC (fun c2=>?_) fun c2=>?_
 ·
  simp [ee] at c2
  refine goA 0 ?_
  refine oC (fun c3=>?_) fun c3=>?_
  ·
   simp [ee] at c3
   refine Aq ?_
   exact fBo (h:=by rw [hR,Bool.eq_iff_iff];simp only [ee];clear ee hX;simp;grind)
  simp [ee] at c3
  refine goA 0 ?_
  refine oC (fun c4=>?_) fun c4=>?_
  ·
   simp [ee] at c4
   refine Aq ?_
   exact fBo (h:=by rw [hR,Bool.eq_iff_iff];simp only [ee];clear ee hX;simp;grind)
  simp [ee] at c4
  refine Aq ?_
  exact fBo (h:=by rw [hR,Bool.eq_iff_iff];simp only [ee];clear ee hX;simp;grind)
 simp [ee] at c2
 refine goA 0 ?_
 refine oC (fun c5=>?_) fun c5=>?_
 ·
  simp [ee] at c5
  refine goA 0 ?_
  refine oC (fun c6=>?_) fun c6=>?_
  ·
   simp [ee] at c6
   refine Aq ?_
   exact fBo (h:=by rw [hR,Bool.eq_iff_iff];simp only [ee];clear ee hX;simp;grind)
  simp [ee] at c6
  refine goA 0 ?_
  refine oC (fun c7=>?_) fun c7=>?_
  ·
   simp [ee] at c7
   refine Aq ?_
   exact fBo (h:=by rw [hR,Bool.eq_iff_iff];simp only [ee];clear ee hX;simp;grind)
  simp [ee] at c7
  refine Aq ?_
  exact fBo (h:=by rw [hR,Bool.eq_iff_iff];simp only [ee];clear ee hX;simp;grind)
 simp [ee] at c5
 refine goA 0 ?_
 refine oC (fun c8=>?_) fun c8=>?_
 ·
  simp [ee] at c8
  refine Aq ?_
  exact fBo (h:=by rw [hR,Bool.eq_iff_iff];simp only [ee];clear ee hX;simp;grind)
 simp [ee] at c8
 refine goA 0 ?_
 refine oC (fun c9=>?_) fun c9=>?_
 ·
  simp [ee] at c9
  refine Aq ?_
  exact fBo (h:=by rw [hR,Bool.eq_iff_iff];simp only [ee];clear ee hX;simp;grind)
 simp [ee] at c9
 refine Aq ?_
 exact fBo (h:=by rw [hR,Bool.eq_iff_iff];simp only [ee];clear ee hX;simp;grind)
theorem P_ref09_Nodes : ∀ p:Pat,p.Sm→PCall EE 60 [p.enc] (.isl 14 (mapE Pat.enc p.nodes)):=by
 refine Pat.ind ?_
 intro o a t v s n c ih hs
 obtain ⟨pp,hpp⟩:∃ pp,pp=Pat.mk o a t v s n c:=⟨_,rfl⟩
 have hpe:pp.enc=(Pat.mk o a t v s n c).enc:=by rw [hpp]
 obtain ⟨co,ca,cv,cf,ck,xk,xn,xt⟩:=c
 have hlen:=hs.len
 have hih:∀ q∈a,PCall EE 60 [q.enc] (.isl 14 (mapE Pat.enc q.nodes)):=fun q hq=>ih q hq (hs.arg hq)
 have hcl:=Pat.closedI a
 have hce:=Ex.closedI ca
 have hcnt:Pat.cntL a≤1048575:=by have hs:=hs.1;simp only [Pat.cnt] at hs;omega
 simp only [Pat.nodes]
 rw [← hpp]
 rw [Pat.enc_mk] at hpe
 clear hpp
 have hpc:=Pat.closed pp
 rw [hpe] at hpc ⊢
 refine zt ?_;unhygienic intros
 generalize hes:mapE Pat.enc a=es at *
 generalize mapE Ex.enc ca=ec at *
 have hel:es.length=a.length:=by rw [← hes,zr]
 have hone:∀ x,AV.closedL [x]=x.closed:=by simp [AV.closedL]
 have hw0:[AV.agg [int o,.isl 14 es,int t,int v,int s,int n,int co,.isl 8 ec,int cv,int cf,int ck,int xk,int xn,str xt]]=mapE Pat.enc (pp :: Pat.nodesL []):=by rw [zn,Pat.nodesL,List.map_cons,hpe];rfl
 have hcw0:AV.closedL [AV.agg [int o,.isl 14 es,int t,int v,int s,int n,int co,.isl 8 ec,int cv,int cf,int ck,int xk,int xn,str xt]]=true:=by rw [hone];exact hpc
 refine fB T60 [.t 2] ?_
 refine Aq ?_
 refine za (ι:=List Pat × List Pat × Int × Nat × List AV) (fun p=>([(3,.sl 1 14 0 p.2.2.2.1),(4,int p.2.2.1),(1,.ptr 0 0)],[.cells [int o,.isl 14 es,int t,int v,int s,int n,int co,.isl 8 ec,int cv,int cf,int ck,int xk,int xn,str xt],.arr 14 p.2.2.2.2])) (fun p=>a=p.1++p.2.1∧p.2.2.1=p.1.length∧p.2.2.2.1=p.2.2.2.2.length∧p.2.2.2.2=mapE Pat.enc (pp :: Pat.nodesL p.1)) (fun p=>p.2.1.length) ([],a,0,1,[AV.agg [int o,.isl 14 es,int t,int v,int s,int n,int co,.isl 8 ec,int cv,int cf,int ck,int xk,int xn,str xt]]) ⟨rfl,rfl,rfl,hw0⟩ ?_ ?_
 · exact (eS [.to 0,.to 1] [some 0,some 1])
 rintro ⟨d,r,i,m,w⟩ ⟨g1,gi,gm,gw⟩
 dsimp only at g1 gi gm gw ⊢
 have hcw:AV.closedL w=true:=by rw [gw];exact Pat.closedL _
 have hm:m=Pat.cntL d+1:=by rw [gm,gw,zr,List.length_cons,Pat.nodesL_len']
 cases r with
 | nil =>
  have L1:=zw g1
  try simp only [List.length] at L1
  have hc:iLt i (lenA es)=false:=xg e_iLt e_lenA (by omega)
  rw [List.append_nil] at g1
  rw [g1,← gw]
  have fz:=hc
  refine Cq ?_
  refine Aq ?_
  refine zl ?_
  refine Aq ?_
  refine zD rfl rfl ?_
  exact ⟨[.gone,.isl 14 (w)],⟨trivial,⟨_,rfl,(zx _ hcw).symm⟩,trivial⟩,.of (yh rfl (by omega))⟩
 | cons q r =>
  have L1:=zw g1
  try simp only [List.length] at L1
  have hc:iLt i (lenA es)=true:=xf e_iLt e_lenA (by omega)
  have hat:=z7 e_atA hes g1 gi
  have hq:=hih q (by rw [g1];simp)
  have hqc:=Pat.closed q
  rw [g1,Pat.cntL_append,Pat.cntL] at hcnt
  have hfit:=fitPat q.nodes
  have hcq:=Pat.closedL q.nodes
  have hql:(mapE Pat.enc q.nodes).length=q.cnt:=by rw [zr,Pat.nodes_len]
  obtain ⟨qO,qA,qT,qV,qS,qN,qCo,qCa,qCv,qCf,qCk,qXk,qXn,qXt,hx⟩:=Pat.form q
  rw [hx] at hq hat hqc
  have hw2:catA (dropA w 0) (mapE Pat.enc q.nodes)=mapE Pat.enc (pp :: Pat.nodesL (d++[q])):=by
   simp only [ee];rw [gw,List.drop_zero,zn,zn,zn,← List.map_append,Pat.nodesL_append];simp [Pat.nodesL]
  generalize mapE Pat.enc q.nodes=eq at *
  have hi2:iAdd .i64 i 1=((d++[q]).length:Int):=by rw [List.length_append];exact yq e_iAdd gi (by omega)
  have hm2:addN m (lenN eq)=(catA (dropA w 0) eq).length:=by simp only [ee];simp [gm]
  have hcw2:AV.closedL (catA (dropA w 0) eq)=true:=by rw [hw2];exact Pat.closedL _
  have fz:=And.intro hc hat
  refine Cq ?_
  refine Cr ?_
  refine oPA hq ?_
  refine Aq ?_
  refine zp (d++[q],r,iAdd .i64 i 1,addN m (lenN eq),catA (dropA w 0) eq) ⟨by simp [g1],hi2,hm2,hw2⟩ (by simp) (eS [.to 0,.gone,.to 1] [some 0,some 2])
end Go.Am
end
