/- Contracts of the program's functions. -/
import Derived.Test.YtpdmaimjllhooaaGreatDoorCards
import Derived.Test.YtpdmaimjllhooaaGreatDoorProg
import Derived.Test.YtpdmaimjllhooaaGreatDoorRows
import Derived.Test.YtpdmaimjllhooaaGreatDoorTie
import Derived.Test.YtpdmaimjllhooaaGreatDoorPCt16
section
set_option maxHeartbeats 16000000
set_option maxRecDepth 100000
namespace Go.Am
open Go.Proofs
theorem cfold_in : ∀ (n:Nat) (d:List Pat),d.length=n→(yg d).2.2=true→∀ q∈d,zJ q.op=true→0≤q.var∧q.var<(yg d).1
 | 0,d,h,_,q,hq,_=>by
  rw [List.length_eq_zero_iff.1 h] at hq;cases hq
 | n+1,d,h,hb,q,hq,ht=>by
  have hne:d≠[]:=by rintro rfl;simp at h
  obtain ⟨d',x,rfl⟩:∃ d' x,d=d'++[x]:=⟨d.dropLast,d.getLast hne,(List.dropLast_concat_getLast hne).symm⟩
  rw [cfold_snoc] at hb ⊢
  have hbd:=cfold_bd d'
  have ih:=cfold_in n d' (by simpa using h)
  generalize yg d'=s at *
  obtain ⟨s1,s2,s3⟩:=s
  simp only [w6,Bool.and_eq_true,Bool.or_eq_true,Bool.not_eq_true',beq_iff_eq] at hb ⊢
  rcases List.mem_append.1 hq with hq | hq
  · have:=ih hb.1.1 q hq ht
    dsimp only at this
    split<;>omega
  rw [List.mem_singleton.1 hq] at ht ⊢
  have h2:=hb.1.2.resolve_left (by rw [ht];decide)
  rw [if_pos ht]
  dsimp only at hbd
  omega
theorem vars_in {p:Pat} {vs:List Vr} (h:p.chk=0) (hn:p.nVars=vs.length):∀ q∈p.nodes,q.op=0∨q.op=5→0≤q.var∧q.var<vs.length:=fun q hq ho=>by
 have:=cfold_in _ p.nodes rfl (vb h).2 q hq (by rw [zJ];simp;omega)
 rw [Pat.nVars,if_pos h] at hn
 omega
noncomputable def cntE (p:Pat) (vs:List Vr):Int:=if p.chk≠0 then p.chk else if p.nVars≠vs.length then 15 else 0
noncomputable def tpE (ts:List Sch) (vs:List Vr) (p:Pat):Int:=if xU ts vs≠0 then xU ts vs else if cntE p vs≠0 then cntE p vs else if zu (ndE ts vs) p.nodes≠0 then zu (ndE ts vs) p.nodes else p.scE
noncomputable def tpI (ts:List Sch) (vs:List Vr) (p:Pat):Int:=if xU ts vs≠0 then 0 else if cntE p vs≠0 then 0 else if zu (ndE ts vs) p.nodes≠0 then yX (ndE ts vs) p.nodes else p.scI
theorem scI_zero {p:Pat} (h:p.scE=0):p.scI=0:=by
 unfold Pat.scE at h
 unfold Pat.scI
 split
 · rfl
 rename_i h2
 rw [if_neg h2] at h
 exact idxE_zero _ _ h
theorem cntE_in {p:Pat} {vs:List Vr} (h:cntE p vs=0):∀ q∈p.nodes,q.op=0∨q.op=5→0≤q.var∧q.var<vs.length:=by
 unfold cntE at h
 split at h
 · rename_i h2;exact absurd h h2
 rename_i h2
 split at h
 · cases h
 rename_i h3
 exact vars_in (by simpa using h2) (by simpa using h3)
theorem xZ (ts:List Sch) (vs:List Vr) (p:Pat) (hs:p.Sm) (hts:x9 ts) (hvs:vs.length<1048577) (hvn:∀ v∈vs,v.nm.length<1048577) :
 PCall EL 17 [.isl 2 (mapE Sch.enc ts),.isl 2 (mapE Vr.enc vs),p.enc] (.tup [int (tpI ts vs p),int (tpE ts vs p)]):=by
 obtain ⟨cs,hp⟩:=Pat.some_cells p
 have kts:=Sch.closedI ts
 have kvs:=Vr.closedI vs
 have kpc:=Pat.closed p
 have q1:=y9 (by simp [AV.closedL,zh,kts]) (P_declared1 ts hts)
 have q2:=y9 (by simp [AV.closedL,zh,kts,kvs]) (P_declared2 ts vs hts hvs hvn)
 have kcs:AV.closedL cs=true:=by rw [hp] at kpc;exact kpc
 have q3:=y9 (by simp [AV.closedL,zh,kcs,kvs]) (P_Pattern1 p vs hp hs hvs)
 have q4:cntE p vs=0→_:=fun h=>P_Pattern2 p ts vs hp hs hts hvs (cntE_in h)
 have q5:=P_Pattern3 p hp hs
 have e0:(if p.chk≠0 then p.chk else if p.nVars≠vs.length then 15 else 0)=cntE p vs:=rfl
 rw [e0] at q3
 have hl:∀ l:List Prt,l=[⟨98,[.iptr [.fn 95 [.iptr [.isl 2 (mapE Sch.enc ts)]]]],0,zU ts⟩,⟨98,[.iptr [.fn 96 [.iptr [.isl 2 (mapE Sch.enc ts)],.iptr [.isl 2 (mapE Vr.enc vs)]]]],0,xR ts vs⟩,⟨98,[.iptr [.fn 52 [.iptr cs,.iptr [.isl 2 (mapE Vr.enc vs)]]]],0,cntE p vs⟩,⟨54,[.iptr [.isl 2 (mapE Sch.enc ts)],.iptr [.isl 2 (mapE Vr.enc vs)],.iptr cs],yX (ndE ts vs) p.nodes,zu (ndE ts vs) p.nodes⟩,⟨56,[.iptr cs],p.scI,p.scE⟩]→uC l=tpI ts vs p∧zu Prt.e l=tpE ts vs p:=by
  rintro l rfl
  have z1:=idxE_zero (ndE ts vs) p.nodes
  have z2:=@scI_zero p
  clear q1 q2 q3 q4 q5 e0
  simp only [uC,zu,tpI,tpE,xU]
  by_cases b1:zU ts=0<;>by_cases b2:xR ts vs=0<;>by_cases b3:cntE p vs=0<;>by_cases b4:zu (ndE ts vs) p.nodes=0<;>by_cases b5:p.scE=0<;>simp_all
 obtain ⟨l,hle⟩:∃ l,l=[⟨98,[.iptr [.fn 95 [.iptr [.isl 2 (mapE Sch.enc ts)]]]],0,zU ts⟩,⟨98,[.iptr [.fn 96 [.iptr [.isl 2 (mapE Sch.enc ts)],.iptr [.isl 2 (mapE Vr.enc vs)]]]],0,xR ts vs⟩,⟨98,[.iptr [.fn 52 [.iptr cs,.iptr [.isl 2 (mapE Vr.enc vs)]]]],0,cntE p vs⟩,⟨54,[.iptr [.isl 2 (mapE Sch.enc ts)],.iptr [.isl 2 (mapE Vr.enc vs)],.iptr cs],yX (ndE ts vs) p.nodes,zu (ndE ts vs) p.nodes⟩,(⟨56,[.iptr cs],p.scI,p.scE⟩:Prt)]:=⟨_,rfl⟩
 have qf:=P_firstL l (by rw [hle];simp) (by rw [hle];simp [AV.closedL,zE,zh,kts,kvs,kcs]) (by
  rw [hle]
  exact ⟨q1,fun _=>⟨q2,fun _=>⟨q3,fun h=>⟨q4 h,fun _=>⟨q5,fun _=>trivial⟩⟩⟩⟩⟩)
 rw [(hl l hle).1,(hl l hle).2,hle,zn] at qf
 simp only [List.map_cons,List.map_nil,Prt.enc] at qf
 clear hl hle q1 q2 q3 q4 q5 e0
 have od:=O_declared ts vs
 generalize mapE Sch.enc ts=ets at *
 generalize mapE Vr.enc vs=evs at *
 generalize tpI ts vs p=r1 at *
 generalize tpE ts vs p=r2 at *
 have qw:=x4 52 [.iptr cs,.iptr [.isl 2 evs]] (by simp [AV.closedL,zh,kcs,kvs])
 obtain ⟨pO,pA,pT,pV,pS,pN,pCo,pCa,pCv,pCf,pCk,pXk,pXn,pXt,hx⟩:=Pat.form p
 rw [hx] at hp kpc ⊢
 injection hp with hp
 subst hp
 have kpA:(AV.isl 14 pA).closed=true:=by have:=kpc;simp [AV.closed,AV.closedL] at this ⊢;exact this.1
 have kpC:(AV.isl 8 pCa).closed=true:=by have:=kpc;simp [AV.closed,AV.closedL] at this ⊢;exact this.2
 have k1:AV.closedL [.isl 2 ets]=true:=by simp [AV.closedL,kts]
 have k2:AV.closedL [.isl 2 evs]=true:=by simp [AV.closedL,kvs]
 refine zt ?_;unhygienic intros
 refine fB T17 [.t 6,.t 7] ?_
 refine goA 0 ?_
 refine yD (F':=[(8,.isl 2 ets),(9,.isl 2 evs),(3,.iptr [.isl 2 ets]),(4,.iptr [.isl 2 evs]),(5,.iptr [int pO,.isl 14 pA,int pT,int pV,int pS,int pN,int pCo,.isl 8 pCa,int pCv,int pCf,int pCk,int pXk,int pXn,str pXt])]) (H':=[]) ?_ ?_
 · exact (yj [.icells ([AV.isl 2 ets]),.icells ([AV.isl 2 evs]),.icells ([int pO,AV.isl 14 pA,int pT,int pV,int pS,int pN,int pCo,AV.isl 8 pCa,int pCv,int pCf,int pCk,int pXk,int pXn,str pXt])] [] ⟨⟨_,rfl,(zx _ k1).symm⟩,⟨_,rfl,(zx _ k2).symm⟩,⟨_,rfl,(zx _ kcs).symm⟩,trivial⟩ trivial ⟨.cl kts,.cl kvs,.refl _,.refl _,.refl _,trivial⟩)
 refine vh (args:=[.isl 2 ets,.isl 2 evs]) (v':=.sl 0 1 0 2) (H':=[.arr 1 [.agg [.fn 98 [.iptr [.fn 95 [.iptr [.isl 2 ets]]]]],.agg [.fn 98 [.iptr [.fn 96 [.iptr [.isl 2 ets],.iptr [.isl 2 evs]]]]]]]) rfl rfl rfl od (by simp [AV.closedL,kts,kvs]) rfl ?_ ?_
 · have c1:=zx (sh 0) k1
   have c2:=zx (sh 0) k2
   show [AObj.arr 1 [AV.agg [.fn _ [.iptr [.fn _ [.iptr (AV.subL _ [.isl 2 ets])]]]],AV.agg [.fn _ [.iptr [.fn _ [.iptr (AV.subL _ [.isl 2 ets]),.iptr (AV.subL _ [.isl 2 evs])]]]]]]=_
   rw [zx _ k1,zx _ k2]
 have hcat:catA (dropA [AV.agg [.fn 98 [.iptr [.fn 95 [.iptr [.isl 2 ets]]]]],AV.agg [.fn 98 [.iptr [.fn 96 [.iptr [.isl 2 ets],.iptr [.isl 2 evs]]]]]] 0) (partA [AV.agg [.fn 98 [.iptr [.fn 52 [.iptr [int pO,.isl 14 pA,int pT,int pV,int pS,int pN,int pCo,.isl 8 pCa,int pCv,int pCf,int pCk,int pXk,int pXn,str pXt],.iptr [.isl 2 evs]]]]],AV.agg [.fn 54 [.iptr [.isl 2 ets],.iptr [.isl 2 evs],.iptr [int pO,.isl 14 pA,int pT,int pV,int pS,int pN,int pCo,.isl 8 pCa,int pCv,int pCf,int pCk,int pXk,int pXn,str pXt]]],AV.agg [.fn 56 [.iptr [int pO,.isl 14 pA,int pT,int pV,int pS,int pN,int pCo,.isl 8 pCa,int pCv,int pCf,int pCk,int pXk,int pXn,str pXt]]]] 0 3)=[AV.agg [.fn 98 [.iptr [.fn 95 [.iptr [.isl 2 ets]]]]],AV.agg [.fn 98 [.iptr [.fn 96 [.iptr [.isl 2 ets],.iptr [.isl 2 evs]]]]],AV.agg [.fn 98 [.iptr [.fn 52 [.iptr [int pO,.isl 14 pA,int pT,int pV,int pS,int pN,int pCo,.isl 8 pCa,int pCv,int pCf,int pCk,int pXk,int pXn,str pXt],.iptr [.isl 2 evs]]]]],AV.agg [.fn 54 [.iptr [.isl 2 ets],.iptr [.isl 2 evs],.iptr [int pO,.isl 14 pA,int pT,int pV,int pS,int pN,int pCo,.isl 8 pCa,int pCv,int pCf,int pCk,int pXk,int pXn,str pXt]]],AV.agg [.fn 56 [.iptr [int pO,.isl 14 pA,int pT,int pV,int pS,int pN,int pCo,.isl 8 pCa,int pCv,int pCf,int pCk,int pXk,int pXn,str pXt]]]]:=by simp only [ee];rfl
 have hlen:addN 2 (lenN (partA [AV.agg [.fn 98 [.iptr [.fn 52 [.iptr [int pO,.isl 14 pA,int pT,int pV,int pS,int pN,int pCo,.isl 8 pCa,int pCv,int pCf,int pCk,int pXk,int pXn,str pXt],.iptr [.isl 2 evs]]]]],AV.agg [.fn 54 [.iptr [.isl 2 ets],.iptr [.isl 2 evs],.iptr [int pO,.isl 14 pA,int pT,int pV,int pS,int pN,int pCo,.isl 8 pCa,int pCv,int pCf,int pCk,int pXk,int pXn,str pXt]]],AV.agg [.fn 56 [.iptr [int pO,.isl 14 pA,int pT,int pV,int pS,int pN,int pCo,.isl 8 pCa,int pCv,int pCf,int pCk,int pXk,int pXn,str pXt]]]] 0 3))=5:=by simp only [ee];rfl
 have k5:AV.closedL [AV.agg [.fn 98 [.iptr [.fn 95 [.iptr [.isl 2 ets]]]]],AV.agg [.fn 98 [.iptr [.fn 96 [.iptr [.isl 2 ets],.iptr [.isl 2 evs]]]]],AV.agg [.fn 98 [.iptr [.fn 52 [.iptr [int pO,.isl 14 pA,int pT,int pV,int pS,int pN,int pCo,.isl 8 pCa,int pCv,int pCf,int pCk,int pXk,int pXn,str pXt],.iptr [.isl 2 evs]]]]],AV.agg [.fn 54 [.iptr [.isl 2 ets],.iptr [.isl 2 evs],.iptr [int pO,.isl 14 pA,int pT,int pV,int pS,int pN,int pCo,.isl 8 pCa,int pCv,int pCf,int pCk,int pXk,int pXn,str pXt]]],AV.agg [.fn 56 [.iptr [int pO,.isl 14 pA,int pT,int pV,int pS,int pN,int pCo,.isl 8 pCa,int pCv,int pCf,int pCk,int pXk,int pXn,str pXt]]]]=true:=by simp [AV.closedL,xD,zE,zh,y6,kts,kvs,kpA,kpC]
 refine Aq ?_
 refine oPA qw ?_
 have fz:=And.intro hcat hlen
 refine goC 60 ?_
 refine xX rfl rfl qf rfl ⟨[.gone,.gone,.isl 1 ([AV.agg [AV.fn 98 [AV.iptr [AV.fn 95 [AV.iptr [AV.isl 2 ets]]]]],AV.agg [AV.fn 98 [AV.iptr [AV.fn 96 [AV.iptr [AV.isl 2 ets],AV.iptr [AV.isl 2 evs]]]]],AV.agg [AV.fn 98 [AV.iptr [AV.fn 52 [AV.iptr [int pO,AV.isl 14 pA,int pT,int pV,int pS,int pN,int pCo,AV.isl 8 pCa,int pCv,int pCf,int pCk,int pXk,int pXn,str pXt],AV.iptr [AV.isl 2 evs]]]]],AV.agg [AV.fn 54 [AV.iptr [AV.isl 2 ets],AV.iptr [AV.isl 2 evs],AV.iptr [int pO,AV.isl 14 pA,int pT,int pV,int pS,int pN,int pCo,AV.isl 8 pCa,int pCv,int pCf,int pCk,int pXk,int pXn,str pXt]]],AV.agg [AV.fn 56 [AV.iptr [int pO,AV.isl 14 pA,int pT,int pV,int pS,int pN,int pCo,AV.isl 8 pCa,int pCv,int pCf,int pCk,int pXk,int pXn,str pXt]]]])],⟨trivial,trivial,⟨_,rfl,(zx _ k5).symm⟩,trivial⟩,⟨.refl _,trivial⟩⟩ ?_
 refine Aq ?_
 exact fE [.gone,.gone,.gone]
noncomputable def tkE (ts:List Sch) (x:Qy):Int:=if xU ts x.vs≠0 then xU ts x.vs else wH ts x.vs x.key
theorem P_Key (ts:List Sch) (x:Qy) (hts:x9 ts) (hvs:x.vs.length<1048577) (hvn:∀ v∈x.vs,v.nm.length<1048577) (hk:x.key.length<1048577) :
 PCall EL 19 [.isl 2 (mapE Sch.enc ts),x.enc] (int (tkE ts x)):=by
 have kts:=Sch.closedI ts
 have kvs:=Vr.closedI x.vs
 have krs:=Ex.closedI x.rets
 have kks:=zq x.key
 have q1:=y9 (by simp [AV.closedL,zh,kts]) (P_declared1 ts hts)
 have q2:=y9 (by simp [AV.closedL,zh,kts,kvs]) (P_declared2 ts x.vs hts hvs hvn)
 obtain ⟨pO,pA,pT,pV,pS,pN,pCo,pCa,pCv,pCf,pCk,pXk,pXn,pXt,hx,-,kpA,kpC⟩:=Qy.form x
 have pk:=P_Key1 ts x hx hts hvs hk
 have od:=O_declared ts x.vs
 have hr:∀ a b c:Prt,a.e=zU ts→b.e=xR ts x.vs→c.e=wH ts x.vs x.key→zu Prt.e [a,b,c]=tkE ts x:=fun a b c h1 h2 h3=>by
  simp only [zu,tkE,xU,h1,h2,h3]
  by_cases b1:zU ts=0<;>by_cases b2:xR ts x.vs=0<;>by_cases b3:wH ts x.vs x.key=0<;>simp_all
 rw [hx]
 generalize zU ts=c1 at *
 generalize xR ts x.vs=c2 at *
 generalize wH ts x.vs x.key=c3 at *
 generalize tkE ts x=R at *
 generalize mapE Sch.enc ts=ets at *
 generalize mapE Vr.enc x.vs=evs at *
 generalize mapE Ex.enc x.rets=rs at *
 generalize mapE int x.key=es at *
 generalize ba x.nm=nm at *
 have kq:AV.closedL [str nm,.isl 2 evs,.isl 1 es,int pO,.isl 14 pA,int pT,int pV,int pS,int pN,int pCo,.isl 8 pCa,int pCv,int pCf,int pCk,int pXk,int pXn,str pXt,.isl 8 rs]=true:=by simp [AV.closedL,y6,kvs,krs,kks,kpA,kpC]
 have k3:∀ f:FuncId,∀ qc:List AV,AV.closedL qc=true→AV.closedL [.iptr [.fn f [.iptr [.isl 2 ets],.iptr qc]]]=true:=fun f qc h=>by
  have e:AV.closedL [.isl 2 ets]=true:=by simp [AV.closedL,kts]
  simp only [AV.closedL,zh,zE,h,kts,Bool.and_true]
 have q3:=y9 (show AV.closedL [.iptr [.isl 2 ets],.iptr _]=true by rw [AV.closedL,AV.closedL,AV.closedL,zh,zh,kq];simp [AV.closedL,kts]) pk
 have qf:=P_firstL [⟨98,_,0,c1⟩,⟨98,_,0,c2⟩,⟨98,_,0,c3⟩] (by simp) (by intro p hp;simp only [List.mem_cons,List.not_mem_nil,or_false] at hp;rcases hp with rfl | rfl | rfl<;>first | (simp [AV.closedL,zE,zh,kts,kvs];done) | exact k3 _ _ kq) ⟨q1,fun _=>⟨q2,fun _=>⟨q3,fun _=>trivial⟩⟩⟩
 rw [hr _ _ _ rfl rfl rfl,zn] at qf
 simp only [List.map_cons,List.map_nil,Prt.enc] at qf
 have k1:AV.closedL [.isl 2 ets]=true:=by simp [AV.closedL,kts]
 have k2:AV.closedL [.isl 2 evs]=true:=by simp [AV.closedL,kvs]
 have kfn:AV.closedL [.iptr [.isl 2 ets],.iptr [str nm,.isl 2 evs,.isl 1 es,int pO,.isl 14 pA,int pT,int pV,int pS,int pN,int pCo,.isl 8 pCa,int pCv,int pCf,int pCk,int pXk,int pXn,str pXt,.isl 8 rs]]=true:=by simp [AV.closedL,y6,zh,kts,kvs,krs,kks,kpA,kpC]
 have qw:=x4 63 _ kfn
 clear hr q1 q2 q3 pk hx
 refine zt ?_;unhygienic intros
 refine fB T19 [.t 4] ?_
 refine goA 0 ?_
 refine yD (F':=[(8,.isl 2 ets),(10,.isl 2 evs),(2,.iptr [.isl 2 ets]),(3,.iptr [str nm,.isl 2 evs,.isl 1 es,int pO,.isl 14 pA,int pT,int pV,int pS,int pN,int pCo,.isl 8 pCa,int pCv,int pCf,int pCk,int pXk,int pXn,str pXt,.isl 8 rs])]) (H':=[]) ?_ ?_
 · exact (yj [.icells ([AV.isl 2 ets]),.icells ([str nm,AV.isl 2 evs,AV.isl 1 es,int pO,AV.isl 14 pA,int pT,int pV,int pS,int pN,int pCo,AV.isl 8 pCa,int pCv,int pCf,int pCk,int pXk,int pXn,str pXt,AV.isl 8 rs])] [] ⟨⟨_,rfl,(zx _ k1).symm⟩,⟨_,rfl,(zx _ kq).symm⟩,trivial⟩ trivial ⟨.cl kts,.cl kvs,.refl _,.refl _,trivial⟩)
 refine vh (args:=[.isl 2 ets,.isl 2 evs]) (v':=.sl 0 1 0 2) (H':=[.arr 1 [AV.agg [.fn 98 [.iptr [.fn 95 [.iptr [.isl 2 ets]]]]],AV.agg [.fn 98 [.iptr [.fn 96 [.iptr [.isl 2 ets],.iptr [.isl 2 evs]]]]]]]) rfl rfl rfl od (by simp [AV.closedL,kts,kvs]) rfl ?_ ?_
 · show [AObj.arr 1 [AV.agg [.fn _ [.iptr [.fn _ [.iptr (AV.subL _ [.isl 2 ets])]]]],AV.agg [.fn _ [.iptr [.fn _ [.iptr (AV.subL _ [.isl 2 ets]),.iptr (AV.subL _ [.isl 2 evs])]]]]]]=_
   rw [zx _ k1,zx _ k2]
 have hcat:catA (dropA [AV.agg [.fn 98 [.iptr [.fn 95 [.iptr [.isl 2 ets]]]]],AV.agg [.fn 98 [.iptr [.fn 96 [.iptr [.isl 2 ets],.iptr [.isl 2 evs]]]]]] 0) (partA [AV.agg [.fn 98 [.iptr [.fn 63 [.iptr [.isl 2 ets],.iptr [str nm,.isl 2 evs,.isl 1 es,int pO,.isl 14 pA,int pT,int pV,int pS,int pN,int pCo,.isl 8 pCa,int pCv,int pCf,int pCk,int pXk,int pXn,str pXt,.isl 8 rs]]]]]] 0 1)=[AV.agg [.fn 98 [.iptr [.fn 95 [.iptr [.isl 2 ets]]]]],AV.agg [.fn 98 [.iptr [.fn 96 [.iptr [.isl 2 ets],.iptr [.isl 2 evs]]]]],AV.agg [.fn 98 [.iptr [.fn 63 [.iptr [.isl 2 ets],.iptr [str nm,.isl 2 evs,.isl 1 es,int pO,.isl 14 pA,int pT,int pV,int pS,int pN,int pCo,.isl 8 pCa,int pCv,int pCf,int pCk,int pXk,int pXn,str pXt,.isl 8 rs]]]]]]:=by simp only [ee];rfl
 have hlen:addN 2 (lenN (partA [AV.agg [.fn 98 [.iptr [.fn 63 [.iptr [.isl 2 ets],.iptr [str nm,.isl 2 evs,.isl 1 es,int pO,.isl 14 pA,int pT,int pV,int pS,int pN,int pCo,.isl 8 pCa,int pCv,int pCf,int pCk,int pXk,int pXn,str pXt,.isl 8 rs]]]]]] 0 1))=3:=by simp only [ee];rfl
 have kfc:(AV.fn 63 [.iptr [.isl 2 ets],.iptr [str nm,.isl 2 evs,.isl 1 es,int pO,.isl 14 pA,int pT,int pV,int pS,int pN,int pCo,.isl 8 pCa,int pCv,int pCf,int pCk,int pXk,int pXn,str pXt,.isl 8 rs]]).closed=true:=by rw [zE];exact kfn
 have k5:AV.closedL [AV.agg [.fn 98 [.iptr [.fn 95 [.iptr [.isl 2 ets]]]]],AV.agg [.fn 98 [.iptr [.fn 96 [.iptr [.isl 2 ets],.iptr [.isl 2 evs]]]]],AV.agg [.fn 98 [.iptr [.fn 63 [.iptr [.isl 2 ets],.iptr [str nm,.isl 2 evs,.isl 1 es,int pO,.isl 14 pA,int pT,int pV,int pS,int pN,int pCo,.isl 8 pCa,int pCv,int pCf,int pCk,int pXk,int pXn,str pXt,.isl 8 rs]]]]]]=true:=by
  have a:AV.closedL [AV.agg [.fn 98 [.iptr [.fn 95 [.iptr [.isl 2 ets]]]]],AV.agg [.fn 98 [.iptr [.fn 96 [.iptr [.isl 2 ets],.iptr [.isl 2 evs]]]]]]=true:=by simp [AV.closedL,xD,zE,zh,kts,kvs]
  have b:(AV.agg [.fn 98 [.iptr [.fn 63 [.iptr [.isl 2 ets],.iptr [str nm,.isl 2 evs,.isl 1 es,int pO,.isl 14 pA,int pT,int pV,int pS,int pN,int pCo,.isl 8 pCa,int pCv,int pCf,int pCk,int pXk,int pXn,str pXt,.isl 8 rs]]]]]).closed=true:=by simp [AV.closedL,y6,xD,zE,zh,kts,kvs,krs,kks,kpA,kpC]
  simp only [AV.closedL,Bool.and_true,Bool.and_eq_true] at a b ⊢
  exact ⟨a.1,a.2,b⟩
 refine Aq ?_
 refine v6 (args:=[.fn 63 [.iptr [.isl 2 ets],.iptr [str nm,.isl 2 evs,.isl 1 es,int pO,.isl 14 pA,int pT,int pV,int pS,int pN,int pCo,.isl 8 pCa,int pCv,int pCf,int pCk,int pXk,int pXn,str pXt,.isl 8 rs]]]) rfl rfl rfl qw (by rw [AV.closedL,kfc];rfl) ?_
 have fz:=And.intro hcat hlen
 refine goC 60 ?_
 refine xX rfl rfl qf rfl ⟨[.gone,.gone,.isl 1 [AV.agg [.fn 98 [.iptr [.fn 95 [.iptr [.isl 2 ets]]]]],AV.agg [.fn 98 [.iptr [.fn 96 [.iptr [.isl 2 ets],.iptr [.isl 2 evs]]]]],AV.agg [.fn 98 [.iptr [.fn 63 [.iptr [.isl 2 ets],.iptr [str nm,.isl 2 evs,.isl 1 es,int pO,.isl 14 pA,int pT,int pV,int pS,int pN,int pCo,.isl 8 pCa,int pCv,int pCf,int pCk,int pXk,int pXn,str pXt,.isl 8 rs]]]]]]],⟨trivial,trivial,⟨_,rfl,(zx _ k5).symm⟩,trivial⟩,⟨.refl _,trivial⟩⟩ ?_
 refine Aq ?_
 exact fV
noncomputable def rkE (ts:List Sch) (vs:List Vr) (e:Ex):Int:=(kindP ts vs e).2
noncomputable def rkK (ts:List Sch) (vs:List Vr) (e:Ex):Int:=(kindP ts vs e).1
def uI (l:List Ex):Int:=if l=[] then 15 else if 256<l.length then 5 else 0
noncomputable def wQ (ts:List Sch) (x:Qy):Int :=
 if tpE ts x.vs x.pat≠0 then tpE ts x.vs x.pat else if uI x.rets≠0 then uI x.rets
 else if zu (rkE ts x.vs) x.rets≠0 then zu (rkE ts x.vs) x.rets else x.pat.rtE x.rets
noncomputable def vH (ts:List Sch) (x:Qy):List Int:=if wQ ts x≠0 then [] else x.rets.map (rkK ts x.vs)
noncomputable def y5 (ts:List Sch) (x:Qy):Int :=
 if zU ts≠0 then zU ts else if nmE x.nm≠0 then nmE x.nm else if tpE ts x.vs x.pat≠0 then tpE ts x.vs x.pat
 else if tkE ts x≠0 then tkE ts x else wQ ts x
noncomputable def uA (ts:List Sch):List Bs→Int→List Qy→Int × Int
 | _,_,[]=>(0,0)
 | s,i,x :: r=>if y5 ts x≠0 then (i,y5 ts x) else if x.nm∈s then (i,7) else uA ts (s++[x.nm]) (i+1) r
noncomputable def uw (ts:List Sch) (qs:List Qy):Int × Int :=
 if zU ts≠0 then (0,zU ts) else if 16<qs.length then (0,5) else uA ts [] 0 qs
theorem firstE_congr {α:Type} {F G:α→Int}:∀ {l:List α},(∀ x∈l,F x=G x)→zu F l=zu G l
 | [],_=>rfl
 | x :: r,h=>by rw [zu,zu,h x (by simp),firstE_congr (l:=r) fun y hy=>h y (by simp [hy])]
theorem idxE_congr {α:Type} {F G:α→Int}:∀ {l:List α},(∀ x∈l,F x=G x)→yX F l=yX G l
 | [],_=>rfl
 | x :: r,h=>by rw [yX,yX,h x (by simp),idxE_congr (l:=r) fun y hy=>h y (by simp [hy]),firstE_congr (l:=r) fun y hy=>h y (by simp [hy])]
theorem nmE_or (s:Bs):nmE s=0∨nmE s=8:=by unfold nmE;split<;>simp
theorem varsL_zero (ts:List Sch):∀ (r:List Vr) (s:List Bs),xJ ts s r=0↔(∀ v∈r,nmE v.nm=0∧tyB ts v=true)∧(r.map Vr.nm).Nodup∧∀ v∈r,v.nm∉s
 | [],s=>by simp [xJ]
 | v :: r,s=>by
  have ih:=varsL_zero ts r (s++[v.nm])
  rw [xJ]
  by_cases h1:nmE v.nm≠0
  · rw [if_pos h1]
    constructor
    · intro h;exact absurd h h1
    rintro ⟨h,_⟩;exact (h v (by simp)).1
  rw [if_neg h1]
  by_cases h2:v.nm∈s
  · rw [if_pos h2];simp [h2]
  rw [if_neg h2]
  by_cases h3:tyB ts v=false
  · rw [if_pos h3];simp [h3]
  rw [if_neg h3,ih]
  constructor
  · rintro ⟨a,b,c⟩
    refine ⟨fun g hg=>?_,?_,fun g hg=>?_⟩
    · rcases List.mem_cons.1 hg with rfl | hg
      · exact ⟨by simpa using h1,by simpa using h3⟩
      exact a g hg
    · rw [List.map_cons,List.nodup_cons]
      refine ⟨fun h=>?_,b⟩
      obtain ⟨g,hg,e⟩:=List.mem_map.1 h
      exact c g hg (by simp [e])
    rcases List.mem_cons.1 hg with rfl | hg
    · exact h2
    intro h;exact c g hg (by simp [h])
  rintro ⟨a,b,c⟩
  rw [List.map_cons,List.nodup_cons] at b
  refine ⟨fun g hg=>a g (by simp [hg]),b.2,fun g hg h=>?_⟩
  rcases List.mem_append.1 h with h | h
  · exact c g (by simp [hg]) h
  simp at h
  exact b.1 (List.mem_map.2 ⟨g,hg,h⟩)
theorem varsE_R {ts:List Sch} {vs:List Vr} (h:xR ts vs=0):x5 ts vs=0:=by
 unfold xR at h
 split at h
 · cases h
 rename_i h1
 exact varsR_good h1 (List.all_eq_true.2 fun v hv=>(((varsL_zero ts vs []).1 h).1 v hv).2)
theorem ux {ts:List Sch} {vs:List Vr} (h:xU ts vs=0):zU ts=0∧xR ts vs=0∧x5 ts vs=0:=by
 unfold xU at h
 split at h
 · rename_i h1;exact absurd h h1
 rename_i h1;exact ⟨by simpa using h1,h,varsE_R h⟩
theorem kindP_yes {ts:List Sch} {vs:List Vr} (h:xU ts vs=0):kindP ts vs yesE=(1,0):=by
 obtain ⟨h1,_,h2⟩:=ux h
 rw [kindP,if_neg (by simp [h1]),if_neg (by simp [h2]),if_neg (by simp [yes15_chk])]
 simp [yesE,Ex.kindK,wn]
theorem ndE_wrap {ts:List Sch} {vs:List Vr} {o:Int} {p:Pat} {e:Ex} (ho:(o=4∧e=Ex0)∨(o=7∧e=yesE)) (h:xU ts vs=0):ndE ts vs (zA o p e)=0:=by
 rcases ho with ⟨rfl,rfl⟩ | ⟨rfl,rfl⟩
 · simp [ndE,zA,Pat.op]
 have h1:ndE ts vs (zA 7 p yesE)=cndE ts vs yesE:=by simp [ndE,zA,Pat.op,Pat.cond]
 rw [h1,cndE,kindP_yes h];rfl
theorem wrap_c {o:Int} {p:Pat} {e:Ex} (ho:(o=4∧e=Ex0)∨(o=7∧e=yesE)) (hk:p.chk=0) (h1:p.cnt<64) (h2:p.dep<12):(zA o p e).chk=0 :=
 wrap_chk (ho.imp id fun h=>⟨h.1,by rw [h.2];exact yes15_chk⟩) hk h1 h2
theorem cntE_wrap {vs:List Vr} {o:Int} {p:Pat} {e:Ex} (ho:(o=4∧e=Ex0)∨(o=7∧e=yesE)) (hk:p.chk=0) (h1:p.cnt<64) (h2:p.dep<12):cntE (zA o p e) vs=cntE p vs:=by
 have hw:=wrap_c ho hk h1 h2
 have o8:zJ (zA o p e).op=false∧yP (zA o p e).op=false:=by
  rcases ho with ⟨rfl,rfl⟩ | ⟨rfl,he⟩<;>simp [zA,Pat.op,zJ,yP]
 have e0:w6 (0,0,true) (zA o p e)=(0,0,true):=by
  simp only [w6,o8.1,o8.2];rfl
 have:(zA o p e).nVars=p.nVars:=by
  rw [Pat.nVars,Pat.nVars,if_pos hw,if_pos hk,wq,yg,List.foldl_cons,e0];rfl
 rw [cntE,cntE,hw,hk,this]
theorem sc_wrap {o:Int} {p:Pat} {e:Ex} (ho:(o=4∧e=Ex0)∨(o=7∧e=yesE)) (hk:p.chk=0) (h1:p.cnt<64) (h2:p.dep<12):(zA o p e).scE=p.scE∧(zA o p e).scI=(if p.scE≠0 then p.scI+1 else 0):=by
 have hw:=wrap_c ho hk h1 h2
 have hc:xw (zA o p e,PlcS)=0:=by
  rcases ho with ⟨rfl,rfl⟩ | ⟨rfl,rfl⟩
  · unfold xw;rw [if_neg (by simp [zA,Pat.op,wp])]
  unfold xw;rw [if_pos (by rfl)];exact yes_fol _
 rw [scE_eq hw,scI_eq hw,scE_eq hk,scI_eq hk,wrap_lf,zu,yX,hc]
 exact ⟨if_neg (by simp),if_neg (by simp)⟩
noncomputable def tpW (ts:List Sch) (vs:List Vr) (p:Pat):Int :=
 if xU ts vs≠0 then 0 else if cntE p vs≠0 then 0 else if zu (ndE ts vs) p.nodes≠0 then yX (ndE ts vs) p.nodes+1
 else if p.scE≠0 then p.scI+1 else 0
theorem tp_wrap {ts:List Sch} {vs:List Vr} {o:Int} {p:Pat} {e:Ex} (ho:(o=4∧e=Ex0)∨(o=7∧e=yesE)) (hk:p.chk=0) (h1:p.cnt<64) (h2:p.dep<12) :
 tpE ts vs (zA o p e)=tpE ts vs p∧tpI ts vs (zA o p e)=tpW ts vs p:=by
 obtain ⟨s1,s2⟩:=sc_wrap ho hk h1 h2
 have c1:=cntE_wrap (vs:=vs) ho hk h1 h2
 unfold tpE tpI tpW
 rw [c1,s1,s2,wq]
 by_cases h:xU ts vs=0
 · have n0:=ndE_wrap (p:=p) ho h
   have f1:zu (ndE ts vs) (zA o p e :: p.nodes)=zu (ndE ts vs) p.nodes:=by rw [zu,n0,if_neg (by simp)]
   have f2:yX (ndE ts vs) (zA o p e :: p.nodes)=if zu (ndE ts vs) p.nodes≠0 then yX (ndE ts vs) p.nodes+1 else 0:=by rw [yX,n0,if_neg (by simp)]
   rw [f1,f2]
   by_cases c:cntE p vs=0<;>by_cases d:zu (ndE ts vs) p.nodes=0<;>simp [h,c,d]
 simp [h]
theorem tpW_ok (ts:List Sch) (vs:List Vr) (p:Pat):(tpE ts vs p=0→tpW ts vs p=0)∧(tpE ts vs p≠0→tpW ts vs p=tpI ts vs p+1∨tpW ts vs p=0∧tpI ts vs p=0):=by
 unfold tpE tpI tpW
 by_cases h1:xU ts vs=0<;>by_cases h2:cntE p vs=0<;>by_cases h3:zu (ndE ts vs) p.nodes=0<;>by_cases h4:p.scE=0<;>simp [h1,h2,h3,h4]
structure Alike (ts:List Sch) (vs:List Vr) (ts':List Sch) (vs':List Vr):Prop where
 chk:zU ts=zU ts'
 var:x5 ts vs=x5 ts' vs'
 leaf:x5 ts vs=0→∀ o v f k x,wn ts vs o v f k x=wn ts' vs' o v f k x
 vty:∀ v,vty vs v=vty vs' v
 len:vs.length=vs'.length
theorem kindsK_congr {ts ts':List Sch} {vs vs':List Vr}:∀ a:List Ex,(∀ e∈a,Ex.kindK ts vs e=Ex.kindK ts' vs' e)→Ex.kindsK ts vs a=Ex.kindsK ts' vs' a
 | [],_=>by rw [Ex.kindsK,Ex.kindsK]
 | e :: r,h=>by
  rw [Ex.kindsK,Ex.kindsK,h e (by simp),kindsK_congr r fun x hx=>h x (by simp [hx])]
theorem kindK_congr {ts ts':List Sch} {vs vs':List Vr} (h:∀ o v f k x,wn ts vs o v f k x=wn ts' vs' o v f k x):∀ e:Ex,Ex.kindK ts vs e=Ex.kindK ts' vs' e :=
 Ex.ind fun o a v f k x ih=>by
  by_cases ha:a=[]
  · rw [Ex.kindK,Ex.kindK,if_pos ha,if_pos ha,h]
  rw [vF ha,vF ha,kindsK_congr a ih]
theorem Alike.kindP {ts ts':List Sch} {vs vs':List Vr} (h:Alike ts vs ts' vs') (e:Ex):kindP ts vs e=kindP ts' vs' e:=by
 unfold Go.Am.kindP
 rw [← h.chk,← h.var]
 by_cases h1:zU ts=0
 · by_cases h2:x5 ts vs=0
   · rw [kindK_congr (h.leaf h2)]
   simp [h1,h2]
 simp [h1]
theorem Alike.cndE {ts ts':List Sch} {vs vs':List Vr} (h:Alike ts vs ts' vs') (e:Ex):cndE ts vs e=cndE ts' vs' e:=by
 unfold Go.Am.cndE;rw [h.kindP]
theorem Alike.ndE {ts ts':List Sch} {vs vs':List Vr} (h:Alike ts vs ts' vs') (q:Pat):ndE ts vs q=ndE ts' vs' q:=by
 unfold Go.Am.ndE;rw [h.cndE,h.vty]
theorem Alike.cntE {ts ts':List Sch} {vs vs':List Vr} (h:Alike ts vs ts' vs') (p:Pat):cntE p vs=cntE p vs':=by
 unfold Go.Am.cntE;rw [h.len]
theorem Alike.tp {ts ts':List Sch} {vs vs':List Vr} (h:Alike ts vs ts' vs') (hd:xU ts vs=xU ts' vs') (p:Pat):tpE ts vs p=tpE ts' vs' p∧tpI ts vs p=tpI ts' vs' p:=by
 have a:=firstE_congr (l:=p.nodes) fun q _=>h.ndE q
 have b:=idxE_congr (l:=p.nodes) fun q _=>h.ndE q
 unfold tpE tpI
 rw [hd,h.cntE,a,b];exact ⟨rfl,rfl⟩
theorem Alike.rts {ts ts':List Sch} {x x':Qy} (h:Alike ts x.vs ts' x'.vs) (hd:xU ts x.vs=xU ts' x'.vs) (hp:x.pat=x'.pat) (hr:x.rets=x'.rets):wQ ts x=wQ ts' x'∧vH ts x=vH ts' x':=by
 have a:=firstE_congr (l:=x'.rets) (F:=rkE ts x.vs) (G:=rkE ts' x'.vs) fun e _=>by unfold rkE;rw [h.kindP]
 have e:wQ ts x=wQ ts' x':=by
  unfold wQ;rw [hp,hr,(h.tp hd _).1,a]
 refine ⟨e,?_⟩
 unfold vH
 rw [e,hr]
 have:rkK ts x.vs=rkK ts' x'.vs:=by funext e;unfold rkK;rw [h.kindP]
 rw [this]
theorem chkAll_front {ts:List Sch} {z:Sch} (h:zU (ts++[z])=0):zU ts=0:=by
 rw [chkAll_zero] at h ⊢
 obtain ⟨a,b,c⟩:=h
 rw [List.length_append] at a
 rw [List.map_append] at c
 exact ⟨by omega,fun q hq=>b q (by simp [hq]),(List.nodup_append.1 c).1⟩
theorem tyB_ext {ts:List Sch} {z:Sch} {v:Vr} (h:v.ty≠ts.length):tyB (ts++[z]) v=tyB ts v:=by
 unfold tyB
 rw [List.length_append,Bool.eq_iff_iff,decide_eq_true_eq,decide_eq_true_eq]
 simp only [List.length_cons,List.length_nil]
 omega
theorem varsL_ext {ts:List Sch} {z:Sch}:∀ (r:List Vr) (s:List Bs),(∀ v∈r,v.ty≠ts.length)→xJ (ts++[z]) s r=xJ ts s r
 | [],_,_=>rfl
 | v :: r,s,h=>by
  rw [xJ,xJ,tyB_ext (h v (by simp)),varsL_ext r _ fun x hx=>h x (by simp [hx])]
theorem varsR_ext {ts:List Sch} {z:Sch} {vs:List Vr} (h:∀ v∈vs,v.ty≠ts.length):x5 ts vs=x5 (ts++[z]) vs:=by
 unfold x5
 have:vs.all (tyB (ts++[z]))=vs.all (tyB ts):=by
  rw [Bool.eq_iff_iff,List.all_eq_true,List.all_eq_true]
  constructor<;>(intro hh v hv;have:=hh v hv;have e:=tyB_ext (z:=z) (h v hv);simp_all)
 rw [this]
theorem leafK_ext {ts:List Sch} {z:Sch} {vs:List Vr} (hv:∀ v∈vs,0≤v.ty∧v.ty<(ts.length:Int)) (o v f k x:Int):wn ts vs o v f k x=wn (ts++[z]) vs o v f k x:=by
 unfold wn
 by_cases h0:o=0
 · rw [if_pos h0,if_pos h0]
 rw [if_neg h0,if_neg h0]
 by_cases h1:¬ v<vs.length
 · rw [if_pos h1,if_pos h1]
 rw [if_neg h1,if_neg h1]
 by_cases h2:o=2∨o=3
 · rw [if_pos h2,if_pos h2]
 rw [if_neg h2,if_neg h2]
 cases h3:vs[v.toNat]? with
 | none=>rfl
 | some y =>
  have hy:=hv y (List.mem_of_getElem? h3)
  dsimp only
  rw [List.getElem?_append_left (by omega)]
theorem alike_ext {ts:List Sch} {z:Sch} {vs:List Vr} (hc:zU (ts++[z])=0) (h:∀ v∈vs,v.ty≠ts.length):Alike ts vs (ts++[z]) vs where
 chk:=by rw [hc,chkAll_front hc]
 var:=varsR_ext h
 leaf:=fun hr=>leafK_ext (varsR_in hr).2
 vty:=fun _=>rfl
 len:=rfl
theorem dclE_ext {ts:List Sch} {z:Sch} {vs:List Vr} (hc:zU (ts++[z])=0) (h:∀ v∈vs,v.ty≠ts.length):xU ts vs=xU (ts++[z]) vs:=by
 unfold xU xR
 rw [hc,chkAll_front hc,varsL_ext vs [] h]
theorem usesT_not {vs:List Vr} {n:Int} (h:∀ v∈vs,v.ty≠n):uX vs n=false:=by
 unfold uX
 rw [List.any_eq_false]
 intro v hv
 simpa using h v hv
theorem keyL_ext {ts:List Sch} {z:Sch} {vs:List Vr} (h:∀ v∈vs,v.ty≠ts.length):∀ (r:List Int) (i kd:Int),0≤i→i+r.length=ts.length→uW (ts++[z]) vs i kd (r++[-1])=uW ts vs i kd r
 | [],i,kd,h0,h1=>by
  simp only [List.length_nil] at h1
  have hi:i=ts.length:=by omega
  rw [List.nil_append,uW,uW,hi,usesT_not h,if_pos rfl,if_neg (by simp),uW]
 | k :: r,i,kd,h0,h1=>by
  rw [List.length_cons] at h1
  have hg:(ts++[z]).getD i.toNat ⟨[],[]⟩=ts.getD i.toNat ⟨[],[]⟩:=by
   rw [List.getD_eq_getElem?_getD,List.getD_eq_getElem?_getD,List.getElem?_append_left (by omega)]
  rw [List.cons_append,uW,uW,hg,keyL_ext h r _ _ (by omega) (by omega),keyL_ext h r _ _ (by omega) (by omega)]
theorem keyE_ext {ts:List Sch} {z:Sch} {vs:List Vr} {key:List Int} (h:∀ v∈vs,v.ty≠ts.length) (hk:key≠[]):wH (ts++[z]) vs (key++[-1])=wH ts vs key:=by
 unfold wH
 rw [if_neg (by simp),if_neg hk,List.length_append,List.length_append]
 by_cases hl:key.length=ts.length
 · rw [if_neg (by simpa using hl),if_neg (by simpa using hl),keyL_ext h key 0 (-1) (by omega) (by omega)]
 rw [if_pos (by simpa using hl),if_pos hl]
theorem keyE_nil (ts:List Sch) (vs:List Vr):wH ts vs []=0:=by rw [wH,if_pos rfl]
def Qy.longer (x:Qy):Qy:=⟨x.nm,x.vs,if x.key=[] then [] else x.key++[-1],x.pat,x.rets⟩
theorem chkQ_ext {ts:List Sch} {z:Sch} {x:Qy} (hc:zU (ts++[z])=0) (h:∀ v∈x.vs,v.ty≠ts.length):y5 (ts++[z]) x.longer=y5 ts x:=by
 have a:=alike_ext hc h
 have d:=dclE_ext hc h
 have t:=(a.tp d x.pat).1
 have r:=(Alike.rts (x:=x) (x':=x.longer) a d rfl rfl).1
 have k:tkE (ts++[z]) x.longer=tkE ts x:=by
  unfold tkE
  show (if xU (ts++[z]) x.vs≠0 then xU (ts++[z]) x.vs else wH (ts++[z]) x.vs (if x.key=[] then [] else x.key++[-1]))=_
  rw [← d]
  by_cases hk:x.key=[]
  · rw [if_pos hk,hk,keyE_nil,keyE_nil]
  rw [if_neg hk,keyE_ext h hk]
 unfold y5
 rw [← a.chk,k,← r]
 show (if zU ts≠0 then zU ts else if nmE x.nm≠0 then nmE x.nm else if tpE (ts++[z]) x.vs x.pat≠0 then tpE (ts++[z]) x.vs x.pat else _)=_
 rw [← t]
theorem leafK_names {ts:List Sch} {vs vs':List Vr} (h:vs'.map Vr.ty=vs.map Vr.ty) (o v f k x:Int):wn ts vs o v f k x=wn ts vs' o v f k x:=by
 have hl:vs.length=vs'.length:=by have:=congrArg List.length h;simpa using this.symm
 have hg:=congrArg (fun l:List Int=>l[v.toNat]?) h
 simp only [List.getElem?_map] at hg
 unfold wn
 rw [hl]
 cases h1:vs[v.toNat]? with
 | none =>
  cases h2:vs'[v.toNat]? with
  | none=>rfl
  | some y=>rw [h1,h2] at hg;cases hg
 | some y =>
  cases h2:vs'[v.toNat]? with
  | none=>rw [h1,h2] at hg;cases hg
  | some y2 =>
   rw [h1,h2] at hg
   simp only [Option.map_some,Option.some.injEq] at hg
   dsimp only
   rw [hg]
theorem map_all_ty {ts:List Sch}:∀ {vs vs':List Vr},vs'.map Vr.ty=vs.map Vr.ty→vs.all (tyB ts)=vs'.all (tyB ts)
 | [],[],_=>rfl
 | [],_ :: _,h=>by cases h
 | _ :: _,[],h=>by cases h
 | v :: r,v' :: r',h=>by
  rw [List.map_cons,List.map_cons] at h
  injection h with h1 h2
  rw [List.all_cons,List.all_cons,map_all_ty h2,tyB,tyB,h1]
theorem vty_names {vs vs':List Vr} (h:vs'.map Vr.ty=vs.map Vr.ty) (v:Int):vty vs v=vty vs' v:=by
 have hg:=congrArg (fun l:List Int=>l[v.toNat]?) h
 simp only [List.getElem?_map] at hg
 unfold vty
 rw [List.getD_eq_getElem?_getD,List.getD_eq_getElem?_getD]
 cases h1:vs[v.toNat]? with
 | none =>
  cases h2:vs'[v.toNat]? with
  | none=>rfl
  | some y=>rw [h1,h2] at hg;cases hg
 | some y =>
  cases h2:vs'[v.toNat]? with
  | none=>rw [h1,h2] at hg;cases hg
  | some y2 =>
   rw [h1,h2] at hg
   simp only [Option.map_some,Option.some.injEq] at hg
   exact hg.symm
theorem alike_names {ts:List Sch} {vs vs':List Vr} (h:vs'.map Vr.ty=vs.map Vr.ty):Alike ts vs ts vs' where
 chk:=rfl
 var:=by
  have hl:vs.length=vs'.length:=by have:=congrArg List.length h;simpa using this.symm
  unfold x5;rw [hl,map_all_ty h]
 leaf:=fun _=>leafK_names h
 vty:=vty_names h
 len:=by have:=congrArg List.length h;simpa using this.symm
theorem usesT_names : ∀ {vs vs':List Vr},vs'.map Vr.ty=vs.map Vr.ty→∀ n,uX vs n=uX vs' n
 | [],[],_,_=>rfl
 | [],_ :: _,h,_=>by cases h
 | _ :: _,[],h,_=>by cases h
 | v :: r,v' :: r',h,n=>by
  rw [List.map_cons,List.map_cons] at h
  injection h with h1 h2
  have ih:=usesT_names h2 n
  unfold uX at ih ⊢
  rw [List.any_cons,List.any_cons,ih,h1]
theorem keyL_names {ts:List Sch} {vs vs':List Vr} (h:vs'.map Vr.ty=vs.map Vr.ty):∀ (r:List Int) (i kd:Int),uW ts vs i kd r=uW ts vs' i kd r
 | [],_,_=>rfl
 | k :: r,i,kd=>by rw [uW,uW,usesT_names h,keyL_names h r,keyL_names h r]
theorem varsL_names {ts:List Sch}:∀ (vs vs':List Vr) (s s':List Bs),vs'.map Vr.ty=vs.map Vr.ty→(∀ v∈vs',nmE v.nm=0)→(vs'.map Vr.nm).Nodup→(∀ v∈vs',v.nm∉s') →
 xJ ts s vs=7∨xJ ts s vs=8∨xJ ts s' vs'=xJ ts s vs
 | [],[],_,_,_,_,_,_=>.inr (.inr rfl)
 | [],_ :: _,_,_,h,_,_,_=>by cases h
 | _ :: _,[],_,_,h,_,_,_=>by cases h
 | v :: r,v' :: r',s,s',h,hn,hd,hs=>by
  rw [List.map_cons,List.map_cons] at h
  injection h with h1 h2
  rw [List.map_cons,List.nodup_cons] at hd
  have ih:=varsL_names (ts:=ts) r r' (s++[v.nm]) (s'++[v'.nm]) h2 (fun x hx=>hn x (by simp [hx])) hd.2 (fun x hx hh=>by
   rcases List.mem_append.1 hh with hh | hh
   · exact hs x (by simp [hx]) hh
   rw [List.mem_singleton] at hh
   exact hd.1 (List.mem_map.2 ⟨x,hx,hh⟩))
  have e2:xJ ts s' (v' :: r')=if tyB ts v'=false then 6 else xJ ts (s'++[v'.nm]) r':=by
   rw [xJ,if_neg (by simp [hn v' (by simp)]),if_neg (hs v' (by simp))]
  rw [e2,xJ]
  rcases nmE_or v.nm with e | e
  · rw [if_neg (by simp [e])]
    by_cases h3:v.nm∈s
    · rw [if_pos h3];exact .inl rfl
    rw [if_neg h3]
    have ht:tyB ts v'=tyB ts v:=by rw [tyB,tyB,h1]
    rw [ht]
    by_cases h4:tyB ts v=false
    · rw [if_pos h4,if_pos h4];exact .inr (.inr rfl)
    rw [if_neg h4,if_neg h4];exact ih
  rw [if_pos (by simp [e])];exact .inr (.inl e)
theorem chkQ_names {ts:List Sch} {x:Qy} {nm':Bs} {vs':List Vr} (hl:x.vs.length≤16) (h:vs'.map Vr.ty=x.vs.map Vr.ty) (hn:∀ v∈vs',nmE v.nm=0) (hd:(vs'.map Vr.nm).Nodup) (hm:nmE nm'=0) :
 y5 ts x=7∨y5 ts x=8∨y5 ts x=y5 ts ⟨nm',vs',x.key,x.pat,x.rets⟩:=by
 by_cases h1:zU ts=0
 rotate_left
 · right;right;unfold y5;rw [if_pos h1,if_pos h1]
 rcases nmE_or x.nm with e | e
 rotate_left
 · right;left;unfold y5;rw [if_neg (by simp [h1]),if_pos (by simp [e]),e]
 have hl2:vs'.length=x.vs.length:=by have:=congrArg List.length h;simpa using this
 have a:=alike_names (ts:=ts) h
 have key:xR ts x.vs=xR ts vs'→y5 ts x=y5 ts ⟨nm',vs',x.key,x.pat,x.rets⟩:=fun hv=>by
  have d:xU ts x.vs=xU ts vs':=by unfold xU;rw [hv]
  have t:=(a.tp d x.pat).1
  have r:=(Alike.rts (x:=x) (x':=⟨nm',vs',x.key,x.pat,x.rets⟩) a d rfl rfl).1
  have k:tkE ts x=tkE ts ⟨nm',vs',x.key,x.pat,x.rets⟩:=by
   unfold tkE
   show _=(if xU ts vs'≠0 then xU ts vs' else wH ts vs' x.key)
   rw [← d]
   have:wH ts x.vs x.key=wH ts vs' x.key:=by unfold wH;rw [keyL_names h]
   rw [this]
  unfold y5
  rw [k,r,e]
  show _=(if zU ts≠0 then zU ts else if nmE nm'≠0 then nmE nm' else if tpE ts vs' x.pat≠0 then tpE ts vs' x.pat else _)
  rw [← t,hm]
 have bad:∀ n:Int,n≠0→xR ts x.vs=n→y5 ts x=n:=fun n h0 hv=>by
  have d:xU ts x.vs=n:=by unfold xU;rw [if_neg (by simp [h1]),hv]
  have t:tpE ts x.vs x.pat=n:=by unfold tpE;rw [d,if_pos h0]
  unfold y5
  rw [if_neg (by simp [h1]),if_neg (by simp [e]),t,if_pos h0]
 have hE:xR ts x.vs=xJ ts [] x.vs:=by unfold xR;rw [if_neg (by omega)]
 have hE':xR ts vs'=xJ ts [] vs':=by unfold xR;rw [if_neg (by omega)]
 rcases varsL_names (ts:=ts) x.vs vs' [] [] h hn hd (by simp) with v | v | v
 · exact .inl (bad 7 (by decide) (hE.trans v))
 · exact .inr (.inl (bad 8 (by decide) (hE.trans v)))
 exact .inr (.inr (key (by rw [hE,hE',v])))
theorem prgL_zero (ts:List Sch):∀ (r:List Qy) (s:List Bs) (i:Int),(uA ts s i r).2=0↔(∀ x∈r,y5 ts x=0)∧(r.map Qy.nm).Nodup∧∀ x∈r,x.nm∉s
 | [],s,i=>by simp [uA]
 | x :: r,s,i=>by
  have ih:=prgL_zero ts r (s++[x.nm]) (i+1)
  rw [uA]
  by_cases h1:y5 ts x≠0
  · rw [if_pos h1]
    constructor
    · intro h;exact absurd h h1
    rintro ⟨h,_⟩;exact h x (by simp)
  rw [if_neg h1]
  by_cases h2:x.nm∈s
  · rw [if_pos h2];simp [h2]
  rw [if_neg h2,ih]
  constructor
  · rintro ⟨a,b,c⟩
    refine ⟨fun g hg=>?_,?_,fun g hg=>?_⟩
    · rcases List.mem_cons.1 hg with rfl | hg
      · simpa using h1
      exact a g hg
    · rw [List.map_cons,List.nodup_cons]
      refine ⟨fun h=>?_,b⟩
      obtain ⟨g,hg,e⟩:=List.mem_map.1 h
      exact c g hg (by simp [e])
    rcases List.mem_cons.1 hg with rfl | hg
    · exact h2
    intro h;exact c g hg (by simp [h])
  rintro ⟨a,b,c⟩
  rw [List.map_cons,List.nodup_cons] at b
  refine ⟨fun g hg=>a g (by simp [hg]),b.2,fun g hg h=>?_⟩
  rcases List.mem_append.1 h with h | h
  · exact c g (by simp [hg]) h
  simp at h
  exact b.1 (List.mem_map.2 ⟨g,hg,h⟩)
theorem prgL_at (ts:List Sch):∀ (r:List Qy) (s:List Bs) (i:Int),0≤i→0≤(uA ts s i r).1∧((uA ts s i r).2=0→(uA ts s i r).1=0)∧((uA ts s i r).1=0∨(uA ts s i r).1<i+r.length)
 | [],s,i,h=>by simp [uA]
 | x :: r,s,i,h=>by
  have ih:=prgL_at ts r (s++[x.nm]) (i+1) (by omega)
  rw [uA]
  rw [List.length_cons]
  by_cases h1:y5 ts x≠0
  · rw [if_pos h1];exact ⟨h,fun h2=>absurd h2 h1,.inr (by omega)⟩
  rw [if_neg h1]
  by_cases h2:x.nm∈s
  · rw [if_pos h2];exact ⟨h,fun h3=>(by cases h3),.inr (by omega)⟩
  rw [if_neg h2]
  exact ⟨ih.1,ih.2.1,by have:=ih.2.2;omega⟩
theorem prgP_zero (ts:List Sch) (qs:List Qy):(uw ts qs).2=0↔zU ts=0∧qs.length≤16∧(∀ x∈qs,y5 ts x=0)∧(qs.map Qy.nm).Nodup:=by
 unfold uw
 by_cases h1:zU ts≠0
 · rw [if_pos h1]
   exact ⟨fun h=>absurd h h1,fun h=>h.1⟩
 rw [if_neg h1]
 by_cases h2:16<qs.length
 · rw [if_pos h2]
   constructor
   · intro h;cases h
   rintro ⟨_,h,_⟩;omega
 rw [if_neg h2,prgL_zero]
 constructor
 · rintro ⟨a,b,_⟩;exact ⟨by simpa using h1,by omega,a,b⟩
 rintro ⟨_,_,a,b⟩;exact ⟨a,b,by simp⟩
theorem prgP_at (ts:List Sch) (qs:List Qy):0≤(uw ts qs).1∧((uw ts qs).2=0→(uw ts qs).1=0)∧((uw ts qs).1=0∨(uw ts qs).1<qs.length):=by
 unfold uw
 by_cases h1:zU ts≠0
 · rw [if_pos h1];simp
 rw [if_neg h1]
 by_cases h2:16<qs.length
 · rw [if_pos h2];simp
 rw [if_neg h2]
 have:=prgL_at ts qs [] 0 (by omega)
 exact ⟨this.1,this.2.1,by have:=this.2.2;omega⟩
theorem prgP_rev (ts:List Sch) (qs:List Qy):(uw ts qs.reverse).2=0↔(uw ts qs).2=0:=by
 rw [prgP_zero,prgP_zero,List.length_reverse,List.map_reverse,(List.reverse_perm (qs.map Qy.nm)).nodup_iff]
 simp only [List.mem_reverse]
theorem tpE_chk {ts:List Sch} {vs:List Vr} {p:Pat} (h:tpE ts vs p=0):p.chk=0:=by
 unfold tpE at h
 split at h
 · rename_i h1;exact absurd h h1
 split at h
 · rename_i h1;exact absurd h h1
 rename_i h1 h2
 unfold cntE at h2
 by_cases hk:p.chk=0
 · exact hk
 rw [if_pos hk] at h2;exact absurd hk (fun k=>h2 k)
theorem chkQ_rest {ts:List Sch} {x:Qy} (h:y5 ts x=0):x.pat.chkR=0:=by
 unfold y5 at h
 split at h
 · rename_i h1;exact absurd h h1
 split at h
 · rename_i h1;exact absurd h h1
 split at h
 · rename_i h1;exact absurd h h1
 rename_i h1
 have hk:=tpE_chk (by simpa using h1)
 have:=(vb hk).1
 unfold Pat.wholeE at this
 by_cases hr:x.pat.chkR=0
 · exact hr
 rw [if_pos hr] at this;exact this
end Go.Am
end
