import Derived.Test.YtpdmaimjllhooaaGreatDoorRCt21
section
set_option maxHeartbeats 16000000
set_option maxRecDepth 100000
namespace Go.Am
open Go.Proofs
theorem P_tcProgram (ts:List Sch) (qs:List Qy) (hts:xW ts) (hqs:qs.length<1048577) (hq:∀ x∈qs,x.Ok) :
 PCall EL 36 [.agg [.isl 2 (mapE Sch.enc ts),.isl 18 (mapE Qy.enc qs)]] (.tup [int (uI ts qs).1,int (uI ts qs).2]):=by
 have p1:=(P_CheckAll ts (by have:=hts.len;omega) hts.sh).toL
 have hck:∀ x∈qs,PCall EL 24 [.isl 2 (mapE Sch.enc ts),x.enc] (int (w7 ts x)):=fun x hx=>w9 ts x hts (hq x hx)
 have kts:=Sch.closedI ts
 have kqs:=Qy.closedI qs
 obtain ⟨RI,hRI⟩:∃ R,R=(uI ts qs).1:=⟨_,rfl⟩
 obtain ⟨RE,hRE⟩:∃ R,R=(uI ts qs).2:=⟨_,rfl⟩
 have hR:(RI,RE)=uI ts qs:=by rw [hRI,hRE]
 rw [← hRI,← hRE]
 rw [uI] at hR
 clear hRI hRE
 have hel:(mapE Qy.enc qs).length=qs.length:=zq ..
 generalize hes:mapE Qy.enc qs=es at *
 generalize mapE Sch.enc ts=ets at *
 obtain ⟨F,hF⟩:∃ F,F=prgL ts:=⟨_,rfl⟩
 have hF0:∀ s i,F s i []=(0,0):=fun s i=>by rw [hF];rfl
 have hF1:∀ s i x r,F s i (x :: r)=if w7 ts x≠0 then (i,w7 ts x) else if x.nm∈s then (i,7) else F (s++[x.nm]) (i+1) r:=fun s i x r=>by rw [hF];rfl
 rw [← hF] at hR
 clear hF
 generalize z7 ts=ca at *
 generalize w7 ts=C at *
 have kq2:AV.closedL [.isl 2 ets,.isl 18 es]=true:=by simp [AV.closedL,kts,kqs]
 clear hts hq
 refine zr ?_;unhygienic intros
 by_cases h1:ca=0
 rotate_left
 · have q1:iNe ca 0=true:=by simp only [ee];simpa using h1
   rw [if_pos h1] at hR
   injection hR with hR1 hR2
   rw [hR1,hR2]
   refine fB T36 [.t 2,.t 3] ?_
   refine Aq ?_
   refine oPA p1 ?_
   have fz:=q1
   refine Cq ?_
   refine Aq ?_
   exact fE [.gone]
 have q1:iNe ca 0=false:=by simp only [ee];simpa using h1
 rw [if_neg (by simpa using h1)] at hR
 by_cases h2:16<qs.length
 · have q2:iLt 16 (lenA es)=true:=by simp only [ee];simp;omega
   rw [if_pos h2] at hR
   injection hR with hR1 hR2
   rw [hR1,hR2]
   refine fB T36 [.t 2,.t 3] ?_
   refine Aq ?_
   refine oPA p1 ?_
   have fz:=And.intro q1 q2
   refine Cq ?_
   refine Cr ?_
   refine Aq ?_
   exact fE [.gone]
 have q2:iLt 16 (lenA es)=false:=by simp only [ee];simp;omega
 rw [if_neg h2] at hR
 refine fB T36 [.t 2,.t 3] ?_
 refine Aq ?_
 refine oPA p1 ?_
 have fz:=And.intro q1 q2
 refine Cq ?_
 refine Cr ?_
 refine Aq ?_
 refine zf (ι:=List Qy × List Qy × Int × List (AV × AV)) (fun p=>([(23,int p.2.2.1),(22,int (lenA es)),(21,.isl 18 es),(5,.amap 1),(1,.ptr 0 0)],[.cells [.isl 2 ets,.isl 18 es],.amap p.2.2.2])) (fun p=>qs=p.1++p.2.1∧p.2.2.1=p.1.length∧p.2.2.2=ents (p.1.map Qy.nm)∧(RI,RE)=F (p.1.map Qy.nm) p.2.2.1 p.2.1) (fun p=>p.2.1.length) ([],qs,0,[]) ⟨rfl,rfl,rfl,hR⟩ ?_ ?_
 · have kcM:y5 []=true:=rfl
   exact (eS [.to 0,.to 1] [some 0,some 1])
 rintro ⟨d,r,i,m⟩ ⟨g1,gi,gm,gc⟩
 dsimp only at g1 gi gm gc ⊢
 have kcm:y5 m=true:=by rw [gm];exact uY _
 cases r with
 | nil =>
  have L1:=zu g1
  try simp only [List.length] at L1
  have hc:iLt i (lenA es)=false:=yW e_iLt e_lenA (by omega)
  rw [hF0] at gc
  injection gc with gc1 gc2
  rw [gc1,gc2]
  have fz:=hc
  refine Cq ?_
  refine Aq ?_
  refine zo ?_
  refine Aq ?_
  exact fE [.gone,.gone]
 | cons x r =>
  have L1:=zu g1
  try simp only [List.length] at L1
  have hc:iLt i (lenA es)=true:=yY e_iLt e_lenA (by omega)
  have hat:=zP e_atA hes g1 gi
  have hi2:iAdd .i64 i 1=((d++[x]).length:Int):=by rw [List.length_append];exact zJ e_iAdd gi (by omega)
  have hi3:i+1=iAdd .i64 i 1:=by rw [hi2,gi];simp
  have pk:=hck x (by rw [g1];simp)
  have hnm:d.map Qy.nm++[x.nm]=(d++[x]).map Qy.nm:=by simp
  rw [hF1,hi3,hnm] at gc
  have kok:mOk true m (str (ba x.nm))=true:=by simp only [ee];rw [gm];exact ut _ _
  have kget:mGet true m (str (ba x.nm)) (bool false)=bool (decide (x.nm∈d.map Qy.nm)):=by simp only [ee];rw [gm];exact uh _ _
  have kput:x.nm∉d.map Qy.nm→mPut true m (str (ba x.nm)) (bool true)=ents ((d++[x]).map Qy.nm):=fun h=>by simp only [ee];rw [gm,ui _ _ h];simp
  obtain ⟨pO,pA,pT,pV,pS,pN,pCo,pCa,pCv,pCf,pCk,pXk,pXn,pXt,he,hpe,kpA,kpC⟩:=Qy.form x
  have kvs:=Vr.closedI x.vs
  have krs:=Ex.closedI x.rets
  have kks:=zx x.key
  rw [he] at hat pk
  clear hR hck he hpe hF0 hF1 hnm
  generalize C x=cx at *
  generalize hin:decide (x.nm∈d.map Qy.nm)=bi at *
  generalize mapE Vr.enc x.vs=evs at *
  generalize mapE Ex.enc x.rets=rs at *
  generalize mapE int x.key=key at *
  generalize ba x.nm=nm at *
  by_cases n1:cx=0
  rotate_left
  · have q3:iNe cx 0=true:=by simp only [ee];simpa using n1
    rw [if_pos n1] at gc
    injection gc with gc1 gc2
    rw [gc1,gc2]
    clear kput kget kok
    have fz:=And.intro hc (And.intro hat q3)
    refine Cq ?_
    refine Cr ?_
    refine oPA pk ?_
    refine Cq ?_
    refine Aq ?_
    refine zl ?_
    refine Aq ?_
    exact fE [.gone,.gone,.gone]
  have q3:iNe cx 0=false:=by simp only [ee];simpa using n1
  rw [if_neg (by simpa using n1)] at gc
  cases bi with
  | true =>
   rw [if_pos (of_decide_eq_true hin)] at gc
   injection gc with gc1 gc2
   rw [gc1,gc2]
   clear kput
   have fz:=And.intro hc (And.intro hat (And.intro q3 (And.intro kget kok)))
   refine Cq ?_
   refine Cr ?_
   refine oPA pk ?_
   refine Cq ?_
   refine Cr ?_
   refine Aq ?_
   refine zl ?_
   refine Aq ?_
   exact fE [.gone,.gone,.gone]
  | false =>
  rw [if_neg (of_decide_eq_false hin)] at gc
  have kp:=kput (of_decide_eq_false hin)
  clear kput
  have kcM:y5 (mPut true m (str nm) (bool true))=true:=by rw [kp];exact uY _
  have fz:=And.intro hc (And.intro hat (And.intro q3 (And.intro kget kok)))
  refine Cq ?_
  refine Cr ?_
  refine oPA pk ?_
  refine Cq ?_
  refine Cr ?_
  have fz:=kok
  refine goC 60 ?_
  refine zw (d++[x],r,iAdd .i64 i 1,mPut true m (str nm) (bool true)) ⟨by rw [g1];simp,hi2,kp,gc⟩ (by simp) (eS [.to 0,.to 1,.gone] [some 0,some 1])
theorem ux : xW tsX:=⟨by simp [tsX],fun q hq=>by
 simp only [tsX,List.mem_cons,List.not_mem_nil,or_false] at hq
 rcases hq with rfl | rfl<;>(refine ⟨by simp,by simp,fun f hf=>?_⟩;simp at hf;(try rcases hf with rfl | rfl)<;>(try subst hf)<;>simp),fun q hq=>by
 simp only [tsX,List.mem_cons,List.not_mem_nil,or_false] at hq
 rcases hq with rfl | rfl<;>simp⟩
theorem tG (key:List Int) (r:List Ex) (hk:key.length<1048577) (hr:r=[z6 0]∨r=[]):(qX key r).Ok where
 vs:=by simp [qX,vsX]
 vn:=fun v hv=>by simp [qX,vsX] at hv;rcases hv with rfl | rfl<;>simp
 key:=hk
 pat:=patX_sm
 rets:=fun e he=>by
  rcases hr with rfl | rfl
  · simp [qX] at he;rw [he];exact fld_sm 0
  simp [qX] at he
 rl:=by rcases hr with rfl | rfl<;>simp [qX]
 nm:=by simp [qX]
theorem fld_enc (f:Int):(z6 f).enc=.agg [int 1,.isl 8 [],int 0,int f,int 0,int 0,int 0,str ⟨#[]⟩]:=by
 rw [z6,Ex.enc_mk,zk];rfl
abbrev fldN (f:Int):AV:=.agg [int 1,.val (.slice none 0 0),int 0,int f,int 0,int 0,int 0,str ⟨#[]⟩]
theorem fld_wk (f:Int):Wk2 0 (fldN f) (z6 f).enc:=by
 rw [fld_enc]
 exact .agg' ⟨.refl _,.nilI _,.refl _,.refl _,.refl _,.refl _,.refl _,.refl _,trivial⟩
theorem P_awake16 : PCall EL 13 [] (bool true):=by
 have q1:=P_schemas.toL
 have x1:=(P_example16 [1,0]).toL
 have x2:=(P_example16 [0,0]).toL
 have x3:=(P_example16 [1,-1]).toL
 have b0:=((P_below16 (z6 0)).weakA (args:=[fldN 0]) ⟨fld_wk 0,trivial⟩).toL
 have b1:=((P_below16 (z6 1)).weakA (args:=[fldN 1]) ⟨fld_wk 1,trivial⟩).toL
 have c1:=(wL tsX vsX (yQ (z6 0)) ux (by simp [vsX]) (blw_sm 0)).toL
 have c2:=((wL tsX vsX (z6 0) ux (by simp [vsX]) (fld_sm 0)).weakA (args:=[.isl 2 (mapE Sch.enc tsX),.isl 2 (mapE Vr.enc vsX),fldN 0]) ⟨.refl _,.refl _,fld_wk 0,trivial⟩).toL
 have c3:=(wL tsX vsX (yQ (z6 1)) ux (by simp [vsX]) (blw_sm 1)).toL
 have r1:=P_tcReturns tsX (qX [1,0] [z6 0]) ux (tG _ _ (by simp) (.inl rfl))
 have pt:=P_tcPattern tsX vsY patX patX_sm ux (by simp [vsY]) (fun v hv=>by simp [vsY] at hv;rcases hv with rfl | rfl<;>simp)
 have k1:=w9 tsX (qX [1,0] [z6 0]) ux (tG _ _ (by simp) (.inl rfl))
 have k2:=w9 tsX (qX [0,0] [z6 0]) ux (tG _ _ (by simp) (.inl rfl))
 have k3:=w9 tsX (qX [1,-1] [z6 0]) ux (tG _ _ (by simp) (.inl rfl))
 have k4:=w9 tsX (qX [1,0] []) ux (tG _ _ (by simp) (.inr rfl))
 have e1:=(P_Equal [0] (by simp)).toL
 rw [cndX1] at c1
 rw [cndX2] at c2
 rw [cndX3] at c3
 rw [(rtsX _).1,(rtsX _).2] at r1
 rw [tpY.1,tpY.2] at pt
 rw [chkX1] at k1
 rw [chkX2] at k2
 rw [chkX3] at k3
 rw [chkX4] at k4
 obtain ⟨pO,pA,pT,pV,pS,pN,pCo,pCa,pCv,pCf,pCk,pXk,pXn,pXt,hp⟩:=Pat.form patX
 have hpc:=Pat.closed patX
 have kts:=Sch.closedI tsX
 have krs:=Ex.closedI [z6 0]
 have ev:mapE Vr.enc vsX=[.agg [str (ba [97]),int 0],.agg [str (ba [98]),int 1]]:=by simp only [vsX,zk,List.map_cons,List.map_nil,Vr.enc_eq]
 have ew:mapE Vr.enc vsY=[.agg [str (ba [98]),int 1],.agg [str (ba [97]),int 0]]:=by simp only [vsY,zk,List.map_cons,List.map_nil,Vr.enc_eq]
 have hq:∀ key r,(qX key r).enc=.agg [str (ba [113]),.isl 2 [.agg [str (ba [97]),int 0],.agg [str (ba [98]),int 1]],.isl 1 (mapE int key),int pO,.isl 14 pA,int pT,int pV,int pS,int pN,int pCo,.isl 8 pCa,int pCv,int pCf,int pCk,int pXk,int pXn,str pXt,.isl 8 (mapE Ex.enc r)]:=fun key r=>by
  rw [Qy.enc_eq]
  show AV.agg ([str (ba [113]),.isl 2 (mapE Vr.enc vsX),.isl 1 (mapE int key)]++patX.enc.cells++[.isl 8 (mapE Ex.enc r)])=_
  rw [ev,hp];rfl
 have hn:mapE Ex.enc []=[]:=by rw [zk];rfl
 rw [hq] at x1 x2 x3 r1 k1 k2 k3 k4
 rw [hn] at k4
 have k4:=k4.weakA (args:=[.isl 2 (mapE Sch.enc tsX),.agg [str (ba [113]),.isl 2 [.agg [str (ba [97]),int 0],.agg [str (ba [98]),int 1]],.isl 1 (mapE int [1,0]),int pO,.isl 14 pA,int pT,int pV,int pS,int pN,int pCo,.isl 8 pCa,int pCv,int pCf,int pCk,int pXk,int pXn,str pXt,.val (.slice none 0 0)]]) ⟨.refl _,.agg' ⟨.refl _,.refl _,.refl _,.refl _,.refl _,.refl _,.refl _,.refl _,.refl _,.refl _,.refl _,.refl _,.refl _,.refl _,.refl _,.refl _,.refl _,.nilI _,trivial⟩,trivial⟩
 rw [ew,hp] at pt
 rw [ev] at c1 c2 c3
 have h10:mapE int [1,0]=[int 1,int 0]:=by rw [zk];rfl
 have h00:mapE int [0,0]=[int 0,int 0]:=by rw [zk];rfl
 have h1m:mapE int [1,-1]=[int 1,int (-1)]:=by rw [zk];rfl
 have h0:mapE int [0]=[int 0]:=by rw [zk];rfl
 rw [h10] at x1 r1 k1 k4
 rw [h00] at x2 k2
 rw [h1m] at x3 k3
 rw [h0] at r1 e1
 rw [hp] at hpc
 have kpA:(AV.isl 14 pA).closed=true:=by have:=hpc;simp [AV.closed,AV.closedL] at this ⊢;exact this.1
 have kpC:(AV.isl 8 pCa).closed=true:=by have:=hpc;simp [AV.closed,AV.closedL] at this ⊢;exact this.2
 have kb0:=Ex.closed (yQ (z6 0))
 have kb1:=Ex.closed (yQ (z6 1))
 clear hq hp ev ew h10 h00 h1m h0 hn hpc
 generalize mapE Sch.enc tsX=T at *
 generalize mapE Ex.enc [z6 0]=rs at *
 generalize ba [113]=nm at *
 generalize ba [97]=na at *
 generalize ba [98]=nb at *
 generalize yQ (z6 0)=e0 at *
 generalize yQ (z6 1)=e1x at *
 obtain ⟨e0O,e0A,e0V,e0F,e0K,e0Xk,e0Xn,e0Xt,hx0⟩:=Ex.form e0
 obtain ⟨e1xO,e1xA,e1xV,e1xF,e1xK,e1xXk,e1xXn,e1xXt,hx1⟩:=Ex.form e1x
 rw [hx0] at b0 c1 kb0
 rw [hx1] at b1 c3 kb1
 clear hx0 hx1
 have kv:(AV.isl 2 [.agg [str na,int 0],.agg [str nb,int 1]]).closed=true:=rfl
 have kw:(AV.isl 2 [.agg [str nb,int 1],.agg [str na,int 0]]).closed=true:=rfl
 have kk1:(AV.isl 1 [int 1,int 0]).closed=true:=rfl
 have kk2:(AV.isl 1 [int 0,int 0]).closed=true:=rfl
 have kk3:(AV.isl 1 [int 1,int (-1)]).closed=true:=rfl
 have kk0:(AV.isl 1 [int 0]).closed=true:=rfl
 refine zr ?_;unhygienic intros
 have z1:∀ x:Int,iNe x x=false:=fun x=>by simp only [ee];simp
 have z2:∀ x:Int,iEq x x=true:=fun x=>by simp only [ee];simp
 refine fB T13 [.t 0] ?_
 have hv0:atA [.agg [str na,int 0],.agg [str nb,int 1]] 0=.agg [str na,int 0]:=by simp only [ee];rfl
 have hv1:atA [.agg [str na,int 0],.agg [str nb,int 1]] 1=.agg [str nb,int 1]:=by simp only [ee];rfl
 refine Aq ?_
 refine oPA q1 ?_
 refine Aq ?_
 refine xu (F':=[(11,.isl 1 [int 1,int 0]),(10,.isl 2 T)]) (H':=[]) ?_ ?_
 · exact (zF [.isl 1 ([int 1,int 0])] [] ⟨⟨_,rfl,(zp _ (by rfl)).symm⟩,trivial⟩ trivial ⟨.refl _,.cl kts,trivial⟩)
 refine oPA x1 ?_
 refine Aq ?_
 refine oPA r1 ?_
 have fz:=And.intro z1 (And.intro z2 (And.intro hv0 hv1))
 refine Cq ?_
 refine zb rfl (by conv=>lhs;cbv) rfl ?_
 refine uA 9 hX (by conv=>lhs;cbv;try simp only [hv0,hv1];cbv;try simp only [hv0,hv1];cbv;try simp only [hv0,hv1];cbv;try simp only [hv0,hv1];cbv) ?_ ?_
 · first | exact trivial | (simp only [Cd.ok,ee];and_intros<;>first | omega | rfl | (simp<;>omega))
 refine uC rfl rfl rfl rfl ?_
 have fz:=And.intro hv0 hv1
 refine tgC ?_
 refine oPT pt ?_
 refine tgA ?_
 refine zW ⟨rfl,by simp [za,zZ],?_⟩
 refine Aq ?_
 refine xu (F':=[(37,.isl 1 [int 1,int 0]),(8,int 9),(7,int 1),(6,int 0),(5,.isl 1 [int 0]),(4,.ptr 2 0),(3,.ptr 1 0),(2,.ptr 0 0),(1,.isl 2 T)]) (H':=[.cells [str nm,.isl 2 [.agg [str na,int 0],.agg [str nb,int 1]],.isl 1 [int 1,int 0],int pO,.isl 14 pA,int pT,int pV,int pS,int pN,int pCo,.isl 8 pCa,int pCv,int pCf,int pCk,int pXk,int pXn,str pXt,.isl 8 rs],.cells [int 1,.val (.slice none 0 0),int 0,int 0,int 0,int 0,int 0,str ⟨#[]⟩],.cells [int 1,.val (.slice none 0 0),int 0,int 1,int 0,int 0,int 0,str ⟨#[]⟩]]) ?_ ?_
 · exact (zF [.to 0,.to 1,.to 2,.isl 1 ([int 1,int 0])] [some 0,some 1,some 2] ⟨⟨by simp,rfl⟩,⟨by simp,rfl⟩,⟨by simp,rfl⟩,⟨_,rfl,(zp _ (by rfl)).symm⟩,trivial⟩ ⟨ze (b:=0) rfl rfl rfl ⟨.refl _,.refl _,.refl _,.refl _,.cl kpA,.refl _,.refl _,.refl _,.refl _,.refl _,.cl kpC,.refl _,.refl _,.refl _,.refl _,.refl _,.refl _,.cl krs,trivial⟩,ze (b:=1) rfl rfl rfl ⟨.refl _,.refl _,.refl _,.refl _,.refl _,.refl _,.refl _,.refl _,trivial⟩,ze (b:=2) rfl rfl rfl ⟨.refl _,.refl _,.refl _,.refl _,.refl _,.refl _,.refl _,.refl _,trivial⟩,trivial⟩ ⟨.refl _,.refl _,.refl _,.refl _,.refl _,.refl _,.refl _,.refl _,.cl kts,trivial⟩)
 refine oPA x1 ?_
 refine Aq ?_
 refine zb rfl (by conv=>lhs;cbv) rfl ?_
 refine tgA ?_
 refine oPT b0 ?_
 refine oPT c1 ?_
 refine tgA ?_
 have fz:=And.intro z1 (And.intro z2 (And.intro hv0 hv1))
 refine tgC ?_
 refine zn rfl ?_
 refine tgA ?_
 refine zn rfl ?_
 refine tgA ?_
 refine zn rfl ?_
 refine tgA ?_
 refine zn rfl ?_
 refine tgA ?_
 refine zn rfl ?_
 refine oPT c2 ?_
 refine zn rfl ?_
 refine tgA ?_
 refine tgC ?_
 refine zn rfl ?_
 refine tgA ?_
 refine zn rfl ?_
 refine tgA ?_
 refine zn rfl ?_
 refine tgA ?_
 refine zn rfl ?_
 refine tgA ?_
 refine zn rfl ?_
 refine oPT b1 ?_
 refine zn rfl ?_
 refine oPT c3 ?_
 refine zn rfl ?_
 refine tgA ?_
 refine zW ⟨rfl,by simp [za,zZ],?_⟩
 refine Cq ?_
 refine Aq ?_
 refine oPA k1 ?_
 refine Cq ?_
 refine zj rfl rfl (fun c1=>?_) (fun c1=>?_)
 rotate_left
 · simp [ee] at c1
 simp [ee] at c1
 refine Aq ?_
 refine yp rfl rfl e1 rfl ⟨[.gone,.gone,.gone,.gone,.isl 1 ([int 0])],⟨trivial,trivial,trivial,trivial,⟨_,rfl,(zp _ (by rfl)).symm⟩,trivial⟩,⟨.refl _,.refl _,trivial⟩⟩ ?_
 refine Aq ?_
 refine xu (F':=[(79,.isl 1 [int 0,int 0]),(78,.isl 2 T),(77,.val (.bool true)),(9,.ptr 0 0),(8,int 9),(7,int 1),(1,.isl 2 T)]) (H':=[.cells [str nm,.isl 2 [.agg [str na,int 0],.agg [str nb,int 1]],.isl 1 [int 1,int 0],int pO,.isl 14 pA,int pT,int pV,int pS,int pN,int pCo,.isl 8 pCa,int pCv,int pCf,int pCk,int pXk,int pXn,str pXt,.val (.slice none 0 0)]]) ?_ ?_
 · exact (zF [.gone,.gone,.gone,.to 0,.gone,.isl 1 ([int 0,int 0])] [some 3] ⟨trivial,trivial,trivial,⟨by simp,rfl⟩,trivial,⟨_,rfl,(zp _ (by rfl)).symm⟩,trivial⟩ ⟨ze (b:=3) rfl rfl rfl ⟨.refl _,.refl _,.refl _,.refl _,.cl kpA,.refl _,.refl _,.refl _,.refl _,.refl _,.cl kpC,.refl _,.refl _,.refl _,.refl _,.refl _,.refl _,.refl _,trivial⟩,trivial⟩ ⟨.refl _,.cl kts,.refl _,.refl _,.refl _,.refl _,.cl kts,trivial⟩)
 refine oPG x2 ?_
 refine oPG k2 ?_
 refine Cq ?_
 refine zj rfl rfl (fun c1=>?_) (fun c1=>?_)
 rotate_left
 · simp [ee] at c1
 simp [ee] at c1
 refine Aq ?_
 refine xu (F':=[(86,.isl 1 [int 1,int (-1)]),(85,.isl 2 T),(84,.val (.bool true)),(9,.ptr 0 0),(8,int 9),(7,int 1),(1,.isl 2 T)]) (H':=[.cells [str nm,.isl 2 [.agg [str na,int 0],.agg [str nb,int 1]],.isl 1 [int 1,int 0],int pO,.isl 14 pA,int pT,int pV,int pS,int pN,int pCo,.isl 8 pCa,int pCv,int pCf,int pCk,int pXk,int pXn,str pXt,.val (.slice none 0 0)]]) ?_ ?_
 · exact (zF [.to 0,.isl 1 ([int 1,int (-1)])] [some 0] ⟨⟨by simp,rfl⟩,⟨_,rfl,(zp _ (by rfl)).symm⟩,trivial⟩ ⟨ze (b:=0) rfl rfl rfl ⟨.refl _,.refl _,.refl _,.refl _,.cl kpA,.refl _,.refl _,.refl _,.refl _,.refl _,.cl kpC,.refl _,.refl _,.refl _,.refl _,.refl _,.refl _,.refl _,trivial⟩,trivial⟩ ⟨.refl _,.cl kts,.refl _,.refl _,.refl _,.refl _,.cl kts,trivial⟩)
 refine oPG x3 ?_
 refine oPG k3 ?_
 refine Cq ?_
 refine zj rfl rfl (fun c1=>?_) (fun c1=>?_)
 ·
  simp [ee] at c1
  refine Aq ?_
  refine oPG k4 ?_
  refine Aq ?_
  exact fBo (h:=by simp only [ee];rfl)
 simp [ee] at c1
theorem P_lawConditions (ts:List Sch) (vs:List Vr) (e:Ex) (hts:xW ts) (hvs:vs.length<1048577) (he:e.Sm) :
 PCall EL 3 [.isl 2 (mapE Sch.enc ts),.isl 2 (mapE Vr.enc vs),e.enc] (bool true):=by
 have p0:=P_awake16
 have p1:=(P_Few ts (by have:=hts.len;omega) hts.sh).toL
 have p2:=(P_ref08_Few e he).toL
 have p3:=(wL ts vs e hts hvs he).toL
 have p4:=(P_refCondition ts vs e hts hvs he).toL
 have kts:=Sch.closedI ts
 have kvs:=Vr.closedI vs
 have kec:=Ex.closed e
 have hvl:(mapE Vr.enc vs).length=vs.length:=zq ..
 generalize te ts=b1 at *
 generalize e.few=b2 at *
 generalize wQ ts vs e=R at *
 generalize mapE Sch.enc ts=ets at *
 generalize mapE Vr.enc vs=evs at *
 obtain ⟨eO,eA,eV,eF,eK,eXk,eXn,eXt,hxe⟩:=Ex.form e
 rw [hxe] at p2 p3 p4 kec ⊢
 clear hxe he hts
 refine zr ?_;unhygienic intros
 have n0:bNot false=true:=by simp only [ee];rfl
 have n1:bNot true=false:=by simp only [ee];rfl
 have z2:∀ x:Int,iEq x x=true:=fun x=>by simp only [ee];simp
 refine fB T3 [.t 6] ?_
 cases b1 with
 | false =>
  refine Aq ?_
  refine oPA p1 ?_
  have fz:=And.intro n0 (And.intro n1 z2)
  refine Cq ?_
  refine zj rfl rfl (fun c1=>?_) (fun c1=>?_)
  ·
   simp [ee] at c1
   refine Aq ?_
   refine zi rfl rfl ?_
   refine Aq ?_
   refine oPA p0 ?_
   refine Aq ?_
   exact fV
  simp [ee] at c1
 | true =>
 by_cases h1:20<vs.length
 · have q1:iLt 20 (lenA evs)=true:=by simp only [ee];simp;omega
   refine Aq ?_
   refine oPA p1 ?_
   have fz:=And.intro n0 (And.intro n1 (And.intro z2 q1))
   refine Cq ?_
   refine zj rfl rfl (fun c1=>?_) (fun c1=>?_)
   ·
    simp [ee] at c1
    refine Aq ?_
    refine zi rfl rfl ?_
    refine Aq ?_
    refine oPA p0 ?_
    refine Aq ?_
    exact fV
   simp [ee] at c1
 have q1:iLt 20 (lenA evs)=false:=by simp only [ee];simp;omega
 cases b2 with
 | false =>
  refine Aq ?_
  refine oPA p1 ?_
  have fz:=And.intro n0 (And.intro n1 (And.intro z2 q1))
  refine Cq ?_
  refine zj rfl rfl (fun c1=>?_) (fun c1=>?_)
  ·
   simp [ee] at c1
  simp [ee] at c1
  refine Aq ?_
  refine oPG p2 ?_
  refine Cq ?_
  refine oC (fun c2=>?_) fun c2=>?_
  ·
   simp [ee] at c2
   refine Aq ?_
   refine oPA p0 ?_
   refine Aq ?_
   exact fV
  simp [ee] at c2
 | true =>
  refine Aq ?_
  refine oPA p1 ?_
  have fz:=And.intro n0 (And.intro n1 (And.intro z2 q1))
  refine Cq ?_
  refine zj rfl rfl (fun c1=>?_) (fun c1=>?_)
  ·
   simp [ee] at c1
  simp [ee] at c1
  refine Aq ?_
  refine oPG p2 ?_
  refine Cq ?_
  refine oC (fun c2=>?_) fun c2=>?_
  ·
   simp [ee] at c2
  simp [ee] at c2
  refine Aq ?_
  refine zb rfl (by conv=>lhs;cbv) rfl ?_
  refine tgA ?_
  refine oPT p3 ?_
  refine tgA ?_
  refine oPT p4 ?_
  refine tgA ?_
  refine tgC ?_
  refine zn rfl ?_
  refine oPT p0 ?_
  refine tgA ?_
  refine zW ⟨rfl,by simp [za,zZ],?_⟩
  refine Aq ?_
  exact fV
theorem P_ref16Check (ts:List Sch) (x:Qy) (hts:xW ts) (hx:x.Ok):PCall EE 25 [.isl 2 (mapE Sch.enc ts),x.enc] (int (w7 ts x)):=by
 have p1:=P_refCheckAll ts (by have:=hts.len;omega) hts.sh
 have p2:=P_r6Name x.nm hx.nm
 have p3:=P_ref16Pattern ts x.vs x.pat hx.pat hts hx.vs hx.vn
 have p4:PCall EE 20 [.isl 2 (mapE Sch.enc ts),x.enc] (int (tkE ts x)):=P_ref16Key ts x hts hx.vs hx.vn hx.key
 have p5:=P_ref16Returns ts x hts hx
 have kts:=Sch.closedI ts
 have kvs:=Vr.closedI x.vs
 have krs:=Ex.closedI x.rets
 have kks:=zx x.key
 obtain ⟨R,hR⟩:∃ R,R=w7 ts x:=⟨_,rfl⟩
 rw [← hR]
 unfold w7 at hR
 obtain ⟨pO,pA,pT,pV,pS,pN,pCo,pCa,pCv,pCf,pCk,pXk,pXn,pXt,he,hpe,kpA,kpC⟩:=Qy.form x
 rw [hpe] at p3
 rw [he] at p4 p5 ⊢
 generalize tpI ts x.vs x.pat=i3 at *
 generalize tpE ts x.vs x.pat=e3 at *
 generalize mapE int (w8 ts x)=RK at *
 generalize wC ts x=e5 at *
 generalize tkE ts x=e4 at *
 generalize nmE x.nm=e2 at *
 generalize z7 ts=e1 at *
 generalize mapE Sch.enc ts=ets at *
 generalize mapE Vr.enc x.vs=evs at *
 generalize mapE Ex.enc x.rets=es at *
 generalize mapE int x.key=key at *
 generalize ba x.nm=nm at *
 clear he hpe hx hts
 refine zr ?_;unhygienic intros
 by_cases n1:e1=0
 rotate_left
 · have q1:iNe e1 0=true:=by simp only [ee];simpa using n1
   rw [if_pos n1] at hR
   rw [hR]
   clear p2 p3 p4 p5
   refine fB T25 [.t 4] ?_
   refine Aq ?_
   refine oPA p1 ?_
   have fz:=q1
   refine Cq ?_
   refine Aq ?_
   exact fV
 have q1:iNe e1 0=false:=by simp only [ee];simpa using n1
 rw [if_neg (by simpa using n1)] at hR
 by_cases n2:e2=0
 rotate_left
 · have q2:iNe e2 0=true:=by simp only [ee];simpa using n2
   rw [if_pos n2] at hR
   rw [hR]
   clear p3 p4 p5
   refine fB T25 [.t 4] ?_
   refine Aq ?_
   refine oPA p1 ?_
   have fz:=And.intro q1 q2
   refine Cq ?_
   refine Aq ?_
   refine oPA p2 ?_
   refine Cq ?_
   refine Aq ?_
   exact fV
 have q2:iNe e2 0=false:=by simp only [ee];simpa using n2
 rw [if_neg (by simpa using n2)] at hR
 by_cases n3:e3=0
 rotate_left
 · have q3:iNe e3 0=true:=by simp only [ee];simpa using n3
   rw [if_pos n3] at hR
   rw [hR]
   clear p4 p5
   refine fB T25 [.t 4] ?_
   refine Aq ?_
   refine oPA p1 ?_
   have fz:=And.intro q1 (And.intro q2 q3)
   refine Cq ?_
   refine Aq ?_
   refine oPA p2 ?_
   refine Cq ?_
   refine Aq ?_
   refine oPA p3 ?_
   refine Cq ?_
   refine Aq ?_
   exact fV
 have q3:iNe e3 0=false:=by simp only [ee];simpa using n3
 rw [if_neg (by simpa using n3)] at hR
 by_cases n4:e4=0
 rotate_left
 · have q4:iNe e4 0=true:=by simp only [ee];simpa using n4
   rw [if_pos n4] at hR
   rw [hR]
   clear p5
   refine fB T25 [.t 4] ?_
   refine Aq ?_
   refine oPA p1 ?_
   have fz:=And.intro q1 (And.intro q2 (And.intro q3 q4))
   refine Cq ?_
   refine Aq ?_
   refine oPA p2 ?_
   refine Cq ?_
   refine Aq ?_
   refine oPA p3 ?_
   refine Cq ?_
   refine Aq ?_
   refine oPA p4 ?_
   refine Cq ?_
   refine Aq ?_
   exact fV
 have q4:iNe e4 0=false:=by simp only [ee];simpa using n4
 rw [if_neg (by simpa using n4)] at hR
 rw [hR]
 refine fB T25 [.t 4] ?_
 refine Aq ?_
 refine oPA p1 ?_
 have fz:=And.intro q1 (And.intro q2 (And.intro q3 q4))
 refine Cq ?_
 refine Aq ?_
 refine oPA p2 ?_
 refine Cq ?_
 refine Aq ?_
 refine oPA p3 ?_
 refine Cq ?_
 refine Aq ?_
 refine oPA p4 ?_
 refine Cq ?_
 refine Aq ?_
 refine oPA p5 ?_
 refine Aq ?_
 exact fV
theorem P_ref16Program (ts:List Sch) (qs:List Qy) (hts:xW ts) (hqs:qs.length<1048577) (hq:∀ x∈qs,x.Ok) :
 PCall EE 37 [.agg [.isl 2 (mapE Sch.enc ts),.isl 18 (mapE Qy.enc qs)]] (.tup [int (uI ts qs).1,int (uI ts qs).2]):=by
 have p1:=P_refCheckAll ts (by have:=hts.len;omega) hts.sh
 have hck:∀ x∈qs,PCall EE 25 [.isl 2 (mapE Sch.enc ts),x.enc] (int (w7 ts x)):=fun x hx=>P_ref16Check ts x hts (hq x hx)
 have kts:=Sch.closedI ts
 have kqs:=Qy.closedI qs
 obtain ⟨RI,hRI⟩:∃ R,R=(uI ts qs).1:=⟨_,rfl⟩
 obtain ⟨RE,hRE⟩:∃ R,R=(uI ts qs).2:=⟨_,rfl⟩
 have hR:(RI,RE)=uI ts qs:=by rw [hRI,hRE]
 rw [← hRI,← hRE]
 rw [uI] at hR
 clear hRI hRE
 have hel:(mapE Qy.enc qs).length=qs.length:=zq ..
 have kql:=Qy.closedL qs
 generalize hes:mapE Qy.enc qs=es at *
 generalize mapE Sch.enc ts=ets at *
 obtain ⟨F,hF⟩:∃ F,F=prgL ts:=⟨_,rfl⟩
 have hF0:∀ s i,F s i []=(0,0):=fun s i=>by rw [hF];rfl
 have hF1:∀ s i x r,F s i (x :: r)=if w7 ts x≠0 then (i,w7 ts x) else if x.nm∈s then (i,7) else F (s++[x.nm]) (i+1) r:=fun s i x r=>by rw [hF];rfl
 rw [← hF] at hR
 clear hF
 generalize z7 ts=ca at *
 generalize w7 ts=C at *
 have kq2:AV.closedL [.isl 2 ets,.isl 18 es]=true:=by simp [AV.closedL,kts,kqs]
 clear hts hq
 refine zr ?_;unhygienic intros
 by_cases h1:ca=0
 rotate_left
 · have q1:iNe ca 0=true:=by simp only [ee];simpa using h1
   rw [if_pos h1] at hR
   injection hR with hR1 hR2
   rw [hR1,hR2]
   refine fB T37 [.t 2,.t 3] ?_
   refine Aq ?_
   refine oPA p1 ?_
   have fz:=q1
   refine Cq ?_
   refine Aq ?_
   exact fE [.gone]
 have q1:iNe ca 0=false:=by simp only [ee];simpa using h1
 rw [if_neg (by simpa using h1)] at hR
 by_cases h2:16<qs.length
 · have q2:iLt 16 (lenA es)=true:=by simp only [ee];simp;omega
   rw [if_pos h2] at hR
   injection hR with hR1 hR2
   rw [hR1,hR2]
   refine fB T37 [.t 2,.t 3] ?_
   refine Aq ?_
   refine oPA p1 ?_
   have fz:=And.intro q1 q2
   refine Cq ?_
   refine Cr ?_
   refine Aq ?_
   exact fE [.gone]
 have q2:iLt 16 (lenA es)=false:=by simp only [ee];simp;omega
 rw [if_neg h2] at hR
 refine fB T37 [.t 2,.t 3] ?_
 refine Aq ?_
 refine oPA p1 ?_
 have fz:=And.intro q1 q2
 refine Cq ?_
 refine Cr ?_
 refine Aq ?_
 refine zf (ι:=List Qy × List Qy × Int) (fun p=>([(5,int p.2.2),(1,.ptr 0 0)],[.cells [.isl 2 ets,.isl 18 es]])) (fun p=>qs=p.1++p.2.1∧p.2.2=p.1.length∧(RI,RE)=F (p.1.map Qy.nm) p.2.2 p.2.1) (fun p=>p.2.1.length) ([],qs,0) ⟨rfl,rfl,hR⟩ ?_ ?_
 · exact (eS [.to 0] [some 0])
 rintro ⟨d,r,i⟩ ⟨g1,gi,gc⟩
 dsimp only at g1 gi gc ⊢
 cases r with
 | nil =>
  have L1:=zu g1
  try simp only [List.length] at L1
  have hc:iLt i (lenA es)=false:=yW e_iLt e_lenA (by omega)
  rw [hF0] at gc
  injection gc with gc1 gc2
  rw [gc1,gc2]
  have fz:=hc
  refine Cq ?_
  refine Aq ?_
  refine zo ?_
  refine Aq ?_
  exact fE [.gone]
 | cons x r =>
  have L1:=zu g1
  try simp only [List.length] at L1
  have hc:iLt i (lenA es)=true:=yY e_iLt e_lenA (by omega)
  have hat:=zP e_atA hes g1 gi
  have hi2:iAdd .i64 i 1=((d++[x]).length:Int):=by rw [List.length_append];exact zJ e_iAdd gi (by omega)
  have hib:0≤i∧i<lenA es:=by simp only [ee];omega
  have hi3:i+1=iAdd .i64 i 1:=by rw [hi2,gi];simp
  have pk:=hck x (by rw [g1];simp)
  have hnm:d.map Qy.nm++[x.nm]=(d++[x]).map Qy.nm:=by simp
  rw [hF1,hi3,hnm] at gc
  obtain ⟨pO,pA,pT,pV,pS,pN,pCo,pCa,pCv,pCf,pCk,pXk,pXn,pXt,he,hpe,kpA,kpC⟩:=Qy.form x
  have kvs:=Vr.closedI x.vs
  have krs:=Ex.closedI x.rets
  have kks:=zx x.key
  rw [he] at hat pk
  clear hR hck he hpe hF0 hF1 hnm
  have hsz:∀ y:Qy,sEq (ba y.nm) (ba x.nm)=decide (y.nm=x.nm):=fun y=>by
   simp only [ee];rw [wV,wV,Bool.eq_iff_iff];simp
  generalize C x=cx at *
  generalize hin:decide (x.nm∈d.map Qy.nm)=bi at *
  generalize mapE Vr.enc x.vs=evs at *
  generalize mapE Ex.enc x.rets=rs at *
  generalize mapE int x.key=key at *
  generalize hnx:ba x.nm=nm at *
  by_cases n1:cx=0
  rotate_left
  · have q3:iNe cx 0=true:=by simp only [ee];simpa using n1
    rw [if_pos n1] at gc
    injection gc with gc1 gc2
    rw [gc1,gc2]
    have fz:=And.intro hc (And.intro hat q3)
    refine Cq ?_
    refine Cr ?_
    refine zb rfl (by conv=>lhs;cbv) rfl ?_
    refine tgC ?_
    refine oPT pk ?_
    refine tgA ?_
    refine zW ⟨rfl,by simp [za,zZ],?_⟩
    refine Cq ?_
    refine Aq ?_
    refine zl ?_
    refine Aq ?_
    exact fE [.gone]
  have q3:iNe cx 0=false:=by simp only [ee];simpa using n1
  rw [if_neg (by simpa using n1)] at gc
  have hgi:i≤d.length:=by omega
  have fz:=And.intro hc (And.intro hat q3)
  refine Cq ?_
  refine Cr ?_
  refine zb rfl (by conv=>lhs;cbv) rfl ?_
  refine tgC ?_
  refine oPT pk ?_
  refine tgA ?_
  refine zW ⟨rfl,by simp [za,zZ],?_⟩
  refine Cq ?_
  have fz:=And.intro hc hat
  refine Cr ?_
  refine Aq ?_
  refine zf (ι:=List Qy × List Qy × Int) (fun p=>([(7,int p.2.2),(5,int i),(1,.ptr 0 0)],[.cells [.isl 2 ets,.isl 18 es]])) (fun p=>d=p.1++p.2.1∧p.2.2=p.1.length∧x.nm∉p.1.map Qy.nm) (fun p=>p.2.1.length) ([],d,0) ⟨rfl,rfl,by simp⟩ ?_ ?_
  · exact (eS [.to 0] [some 0])
  rintro ⟨d2,r2,j⟩ ⟨g2,gj,gn⟩
  dsimp only at g2 gj gn ⊢
  cases r2 with
  | nil =>
   have hji:iLt j i=false:=by simp only [ee];simp;rw [g2] at gi;simp at gi;omega
   rw [List.append_nil] at g2
   rw [← g2] at gn
   have gcn:(RI,RE)=F ((d++[x]).map Qy.nm) (iAdd .i64 i 1) r:=by rw [gc,if_neg gn]
   have fz:=And.intro hc (And.intro hat hji)
   refine Cq ?_
   refine Aq ?_
   refine zo ?_
   refine Aq ?_
   refine zw (d++[x],r,iAdd .i64 i 1) ⟨by rw [g1];simp,hi2,gcn⟩ (by simp) (eS [.to 0] [some 0])
  | cons y r2 =>
   have L2:=congrArg List.length g2
   rw [List.length_append,List.length_cons] at L2
   have hji:iLt j i=true:=by simp only [ee];simp;omega
   have hg3:qs=d2++y :: (r2++x :: r):=by rw [g1,g2];simp
   have hjb:0≤j∧j<lenA es:=by simp only [ee];omega
   have haty:=zP e_atA hes hg3 gj
   have hj2:iAdd .i64 j 1=((d2++[y]).length:Int):=by rw [List.length_append];exact zJ e_iAdd gj (by omega)
   have hs:=hsz y
   obtain ⟨yO,yA,yT,yV,yS,yN,yCo,yCa,yCv,yCf,yCk,yXk,yXn,yXt,hey,hpy,kyA,kyC⟩:=Qy.form y
   rw [hey] at haty
   clear hey hpy hsz pk
   generalize mapE Vr.enc y.vs=yvs at *
   generalize mapE Ex.enc y.rets=yrs at *
   generalize mapE int y.key=ykey at *
   by_cases n2:y.nm=x.nm
   · have q4:sEq (ba y.nm) nm=true:=by rw [hs];exact decide_eq_true n2
     have hm:x.nm∈d.map Qy.nm:=by rw [g2,← n2];simp
     rw [if_pos hm] at gc
     injection gc with gc1 gc2
     rw [gc1,gc2]
     generalize ba y.nm=ym at *
     have fz:=And.intro hat (And.intro haty (And.intro hji q4))
     refine Cq ?_
     refine Cr ?_
     refine Aq ?_
     refine zl ?_
     refine Aq ?_
     refine zl ?_
     refine Aq ?_
     exact fE [.gone]
   have q4:sEq (ba y.nm) nm=false:=by rw [hs];exact decide_eq_false n2
   have gn2:x.nm∉(d2++[y]).map Qy.nm:=by
    rw [List.map_append,List.mem_append]
    rintro (h | h)
    · exact gn h
    simp at h;exact n2 h.symm
   generalize ba y.nm=ym at *
   have fz:=And.intro hat (And.intro haty (And.intro hji q4))
   refine Cq ?_
   refine Cr ?_
   refine Aq ?_
   refine zw (d2++[y],r2,iAdd .i64 j 1) ⟨by rw [g2];simp,hj2,gn2⟩ (by simp) (eS [.to 0] [some 0])
theorem P_lawPatterns (ts:List Sch) (x:Qy) (hts:xW ts) (hx:x.Ok) :
 PCall EL 4 [.isl 2 (mapE Sch.enc ts),x.enc] (bool true):=by
 have p0:=P_awake16
 have p1:=(P_few16 ts x hts hx).toL
 have p2:=P_tcPattern ts x.vs x.pat hx.pat hts hx.vs hx.vn
 have p3:=(P_ref16Pattern ts x.vs x.pat hx.pat hts hx.vs hx.vn).toL
 have p4:=P_Key ts x hts hx.vs hx.vn hx.key
 have p5:PCall EL 20 [.isl 2 (mapE Sch.enc ts),x.enc] (int (tkE ts x)):=(P_ref16Key ts x hts hx.vs hx.vn hx.key).toL
 have kts:=Sch.closedI ts
 have kvs:=Vr.closedI x.vs
 have krs:=Ex.closedI x.rets
 have kks:=zx x.key
 obtain ⟨pO,pA,pT,pV,pS,pN,pCo,pCa,pCv,pCf,pCk,pXk,pXn,pXt,he,hpe,kpA,kpC⟩:=Qy.form x
 rw [hpe] at p2 p3
 rw [he] at p1 p4 p5 ⊢
 generalize (te ts && x.few)=b1 at *
 generalize tpI ts x.vs x.pat=i3 at *
 generalize tpE ts x.vs x.pat=e3 at *
 generalize tkE ts x=e4 at *
 generalize mapE Sch.enc ts=ets at *
 generalize mapE Vr.enc x.vs=evs at *
 generalize mapE Ex.enc x.rets=es at *
 generalize mapE int x.key=key at *
 generalize ba x.nm=nm at *
 clear he hpe hx hts
 refine zr ?_;unhygienic intros
 have n0:bNot false=true:=by simp only [ee];rfl
 have n1:bNot true=false:=by simp only [ee];rfl
 have z2:∀ x:Int,iEq x x=true:=fun x=>by simp only [ee];simp
 refine fB T4 [.t 4] ?_
 cases b1 with
 | false =>
  refine Aq ?_
  refine oPA p1 ?_
  have fz:=And.intro n0 (And.intro n1 z2)
  refine Cq ?_
  refine Aq ?_
  refine oPA p0 ?_
  refine Aq ?_
  exact fV
 | true =>
  refine Aq ?_
  refine oPA p1 ?_
  have fz:=And.intro n0 (And.intro n1 z2)
  refine Cq ?_
  refine Aq ?_
  refine oPA p2 ?_
  refine Aq ?_
  refine oPA p3 ?_
  refine Aq ?_
  refine zb rfl (by conv=>lhs;cbv) rfl ?_
  refine tgA ?_
  refine tgC ?_
  refine zn rfl ?_
  refine tgA ?_
  refine zn rfl ?_
  refine tgA ?_
  refine zn rfl ?_
  refine tgA ?_
  refine tgC ?_
  refine zn rfl ?_
  refine tgA ?_
  refine zn rfl ?_
  refine tgA ?_
  refine zn rfl ?_
  refine oPT p4 ?_
  refine zn rfl ?_
  refine tgA ?_
  refine zn rfl ?_
  refine tgA ?_
  refine zn rfl ?_
  refine oPT p5 ?_
  refine zn rfl ?_
  refine tgA ?_
  refine tgC ?_
  refine zn rfl ?_
  refine oPT p0 ?_
  refine tgA ?_
  refine zW ⟨rfl,by simp [za,zZ],?_⟩
  refine Aq ?_
  exact fV
theorem P_lawQueries (ts:List Sch) (x:Qy) (hts:xW ts) (hx:x.Ok) :
 PCall EL 5 [.isl 2 (mapE Sch.enc ts),x.enc] (bool true):=by
 have p0:=P_awake16
 have p1:=(P_few16 ts x hts hx).toL
 have p2:=P_tcReturns ts x hts hx
 have p3:=(P_ref16Returns ts x hts hx).toL
 have p4:=w9 ts x hts hx
 have p5:=(P_ref16Check ts x hts hx).toL
 have p6:=(P_Equal (w8 ts x) (by
  have:=hx.rl
  unfold w8
  split
  · simp
  simpa using this)).toL
 have kts:=Sch.closedI ts
 have kvs:=Vr.closedI x.vs
 have krs:=Ex.closedI x.rets
 have kks:=zx x.key
 have kK:=zx (w8 ts x)
 obtain ⟨pO,pA,pT,pV,pS,pN,pCo,pCa,pCv,pCf,pCk,pXk,pXn,pXt,he,hpe,kpA,kpC⟩:=Qy.form x
 rw [he] at p1 p2 p3 p4 p5 ⊢
 generalize (te ts && x.few)=b1 at *
 generalize mapE int (w8 ts x)=RK at *
 generalize wC ts x=e3 at *
 generalize w7 ts x=e4 at *
 generalize mapE Sch.enc ts=ets at *
 generalize mapE Vr.enc x.vs=evs at *
 generalize mapE Ex.enc x.rets=es at *
 generalize mapE int x.key=key at *
 generalize ba x.nm=nm at *
 clear he hpe hx hts
 refine zr ?_;unhygienic intros
 have n0:bNot false=true:=by simp only [ee];rfl
 have n1:bNot true=false:=by simp only [ee];rfl
 have z2:∀ x:Int,iEq x x=true:=fun x=>by simp only [ee];simp
 refine fB T5 [.t 4] ?_
 cases b1 with
 | false =>
  refine Aq ?_
  refine oPA p1 ?_
  have fz:=And.intro n0 (And.intro n1 z2)
  refine Cq ?_
  refine Aq ?_
  refine oPA p0 ?_
  refine Aq ?_
  exact fV
 | true =>
  refine Aq ?_
  refine oPA p1 ?_
  have fz:=And.intro n0 (And.intro n1 z2)
  refine Cq ?_
  refine Aq ?_
  refine oPA p2 ?_
  refine Aq ?_
  refine oPA p3 ?_
  refine Aq ?_
  refine zb rfl (by conv=>lhs;cbv) rfl ?_
  refine tgA ?_
  refine oPT p6 ?_
  refine tgA ?_
  refine zn rfl ?_
  refine tgA ?_
  refine zn rfl ?_
  refine tgA ?_
  refine zn rfl ?_
  refine tgA ?_
  refine tgC ?_
  refine zn rfl ?_
  refine tgA ?_
  refine zn rfl ?_
  refine tgA ?_
  refine zn rfl ?_
  refine oPT p4 ?_
  refine zn rfl ?_
  refine tgA ?_
  refine zn rfl ?_
  refine tgA ?_
  refine zn rfl ?_
  refine oPT p5 ?_
  refine zn rfl ?_
  refine tgA ?_
  refine tgC ?_
  refine zn rfl ?_
  refine oPT p0 ?_
  refine tgA ?_
  refine zW ⟨rfl,by simp [za,zZ],?_⟩
  refine Aq ?_
  exact fV
theorem P_lawPrograms (ts:List Sch) (qs:List Qy) (hts:xW ts) (hqs:qs.length<1048577) (hq:∀ x∈qs,x.Ok) :
 PCall EL 9 [.agg [.isl 2 (mapE Sch.enc ts),.isl 18 (mapE Qy.enc qs)]] (bool true):=by
 have p0:=P_awake16
 have p1:=(P_Few14 ts qs hts hqs hq).toL
 have p2:=P_tcProgram ts qs hts hqs hq
 have p3:=(P_ref16Program ts qs hts hqs hq).toL
 have kts:=Sch.closedI ts
 have kqs:=Qy.closedI qs
 generalize fewP ts qs=b1 at *
 generalize (uI ts qs).1=i3 at *
 generalize (uI ts qs).2=e3 at *
 generalize mapE Sch.enc ts=ets at *
 generalize mapE Qy.enc qs=es at *
 clear hq hts
 refine zr ?_;unhygienic intros
 have n0:bNot false=true:=by simp only [ee];rfl
 have n1:bNot true=false:=by simp only [ee];rfl
 have z2:∀ x:Int,iEq x x=true:=fun x=>by simp only [ee];simp
 refine fB T9 [.t 2] ?_
 cases b1 with
 | false =>
  refine Aq ?_
  refine oPA p1 ?_
  have fz:=And.intro n0 (And.intro n1 z2)
  refine Cq ?_
  refine Aq ?_
  refine oPA p0 ?_
  refine Aq ?_
  exact fV
 | true =>
  refine Aq ?_
  refine oPA p1 ?_
  have fz:=And.intro n0 (And.intro n1 z2)
  refine Cq ?_
  refine Aq ?_
  refine oPA p2 ?_
  refine Aq ?_
  refine oPA p3 ?_
  refine Cq ?_
  refine zj rfl rfl (fun c1=>?_) (fun c1=>?_)
  ·
   simp [ee] at c1
   refine oPG p0 ?_
   refine Aq ?_
   exact fV
  simp [ee] at c1
end Go.Am
end
