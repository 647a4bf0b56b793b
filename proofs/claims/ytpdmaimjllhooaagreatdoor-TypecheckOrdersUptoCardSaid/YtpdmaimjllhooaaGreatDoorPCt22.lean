/- Contracts of the program's functions. -/
import Derived.Test.YtpdmaimjllhooaaGreatDoorCards
import Derived.Test.YtpdmaimjllhooaaGreatDoorProg
import Derived.Test.YtpdmaimjllhooaaGreatDoorRows
import Derived.Test.YtpdmaimjllhooaaGreatDoorTie
import Derived.Test.YtpdmaimjllhooaaGreatDoorPCt19
section
set_option maxHeartbeats 16000000
set_option maxRecDepth 100000
namespace Go.Am
open Go.Proofs
theorem idxE_bd16 {α:Type} (F:α→Int):∀ l:List α,0≤yX F l∧yX F l≤l.length
 | []=>by simp [yX]
 | x :: r=>by
  have:=idxE_bd16 F r
  rw [yX,List.length_cons]
  split
  · omega
  split<;>omega
theorem scI_bd16 (p:Pat):0≤p.scI∧p.scI≤p.cnt:=by
 unfold Pat.scI
 split
 · omega
 have:=idxE_bd16 xw (Pat.lf PlcS p)
 rw [Pat.lf_len] at this
 exact this
theorem P_lawWraps16 (ts:List Sch) (x:Qy) (hts:x9 ts) (hx:x.Ok) :
 PCall EL 6 [.isl 2 (mapE Sch.enc ts),x.enc] (bool true):=by
 have p0:=P_awake16
 have p1:=(P_few16 ts x hts hx).toL
 have p2:=(P_pattern_Size x.pat hx.pat).toL
 have p3:=(P_pattern_Check x.pat hx.pat).toL
 have p4:=xZ ts x.vs x.pat hx.pat hts hx.vs hx.vn
 have pt:=P_truth16.toL
 have h0s:Ex0.Sm:=by simp [Ex.Sm,Ex0,Ex.cnt,Ex.cntL]
 have p5:x.pat.chk=0→x.pat.cnt<64→x.pat.dep<12→PCall EL 17 [.isl 2 (mapE Sch.enc ts),.isl 2 (mapE Vr.enc x.vs),(zA 4 x.pat Ex0).enc] (.tup [int (tpW ts x.vs x.pat),int (tpE ts x.vs x.pat)]):=fun hk h1 h2=>by
  obtain ⟨a,b⟩:=tp_wrap (ts:=ts) (vs:=x.vs) (p:=x.pat) (.inl ⟨rfl,rfl⟩) hk h1 h2
  have:=xZ ts x.vs (zA 4 x.pat Ex0) (wrap_sm hx.pat h0s h1) hts hx.vs hx.vn
  rwa [a,b] at this
 have p6:x.pat.chk=0→x.pat.cnt<64→x.pat.dep<12→PCall EL 17 [.isl 2 (mapE Sch.enc ts),.isl 2 (mapE Vr.enc x.vs),(zA 7 x.pat yesE).enc] (.tup [int (tpW ts x.vs x.pat),int (tpE ts x.vs x.pat)]):=fun hk h1 h2=>by
  obtain ⟨a,b⟩:=tp_wrap (ts:=ts) (vs:=x.vs) (p:=x.pat) (.inr ⟨rfl,rfl⟩) hk h1 h2
  have:=xZ ts x.vs (zA 7 x.pat yesE) (wrap_sm hx.pat yes15_sm h1) hts hx.vs hx.vn
  rwa [a,b] at this
 obtain ⟨w1,w2⟩:=tpW_ok ts x.vs x.pat
 have tpb:tpI ts x.vs x.pat<1073741824∧0≤tpI ts x.vs x.pat:=by
  have hc:=hx.pat.1
  have b1:=scI_bd16 x.pat
  have b2:=idxE_bd16 (ndE ts x.vs) x.pat.nodes
  rw [Pat.nodes_len] at b2
  unfold tpI
  split
  · omega
  split
  · omega
  split
  · omega
  omega
 have kts:=Sch.closedI ts
 have kvs:=Vr.closedI x.vs
 have krs:=Ex.closedI x.rets
 have kks:=zq x.key
 have kpc:=Pat.closed x.pat
 have e4:(zA 4 x.pat Ex0).enc=.agg [int 4,.isl 14 [x.pat.enc],int 0,int 0,int 0,int 0,int 0,.isl 8 [],int 0,int 0,int 0,int 0,int 0,str ⟨#[]⟩]:=by
  simp only [zA,Ex0,Pat.enc_mk,zn,List.map_cons,List.map_nil,Vl0]
 have e7:(zA 7 x.pat yesE).enc=.agg [int 7,.isl 14 [x.pat.enc],int 0,int 0,int 0,int 0,int 0,.isl 8 [],int 0,int 0,int 0,int 1,int 1,str ⟨#[]⟩]:=by
  simp only [zA,yesE,Pat.enc_mk,zn,List.map_cons,List.map_nil]
 rw [yesE.enc_eq] at pt
 rw [e4] at p5
 rw [e7] at p6
 obtain ⟨pO,pA,pT,pV,pS,pN,pCo,pCa,pCv,pCf,pCk,pXk,pXn,pXt,he,hpe,kpA,kpC⟩:=Qy.form x
 rw [hpe] at p2 p3 p4 p5 p6 kpc
 rw [he] at p1 ⊢
 obtain ⟨n,hn⟩:∃ n:Int,n=(x.pat.cnt:Int):=⟨_,rfl⟩
 obtain ⟨d,hd⟩:∃ d:Int,d=(x.pat.dep:Int):=⟨_,rfl⟩
 rw [← hn,← hd] at p2
 generalize (tq ts && x.few)=b1 at *
 generalize tpI ts x.vs x.pat=ti at *
 generalize tpE ts x.vs x.pat=te at *
 generalize tpW ts x.vs x.pat=tw at *
 generalize x.pat.chk=ck at *
 generalize x.pat.cnt=cn at *
 generalize x.pat.dep=dp at *
 generalize mapE Sch.enc ts=ets at *
 generalize mapE Vr.enc x.vs=evs at *
 generalize mapE Ex.enc x.rets=es at *
 generalize mapE int x.key=key at *
 generalize ba x.nm=nm at *
 clear he hpe hx hts h0s e4 e7
 have kL1:AV.closedL [.agg [int pO,.isl 14 pA,int pT,int pV,int pS,int pN,int pCo,.isl 8 pCa,int pCv,int pCf,int pCk,int pXk,int pXn,str pXt]]=true:=w8 kpc
 have kW4:(AV.agg [int 4,.isl 14 [.agg [int pO,.isl 14 pA,int pT,int pV,int pS,int pN,int pCo,.isl 8 pCa,int pCv,int pCf,int pCk,int pXk,int pXn,str pXt]],int 0,int 0,int 0,int 0,int 0,.isl 8 [],int 0,int 0,int 0,int 0,int 0,str ⟨#[]⟩]).closed=true:=by have h:=kpc;simp [AV.closed,AV.closedL] at h ⊢;exact h
 have kW7:(AV.agg [int 7,.isl 14 [.agg [int pO,.isl 14 pA,int pT,int pV,int pS,int pN,int pCo,.isl 8 pCa,int pCv,int pCf,int pCk,int pXk,int pXn,str pXt]],int 0,int 0,int 0,int 0,int 0,.isl 8 [],int 0,int 0,int 0,int 1,int 1,str ⟨#[]⟩]).closed=true:=by have h:=kpc;simp [AV.closed,AV.closedL] at h ⊢;exact h
 refine zt ?_;unhygienic intros
 have n0:bNot false=true:=by simp only [ee];rfl
 have n1:bNot true=false:=by simp only [ee];rfl
 have z1:∀ x:Int,iNe x x=false:=fun x=>by simp only [ee];simp
 refine fB T6 [.t 4] ?_
 cases b1 with
 | false =>
  refine Aq ?_
  refine oPA p2 ?_
  refine Aq ?_
  refine oPA p1 ?_
  have fz:=n0
  refine Cq ?_
  refine zj rfl rfl (fun c1=>?_) (fun c1=>?_)
  ·
   simp [ee] at c1
   refine Aq ?_
   refine zg rfl rfl ?_
   refine Aq ?_
   refine oPA p0 ?_
   refine Aq ?_
   exact fV
  simp [ee] at c1
 | true =>
 by_cases h1:64≤n
 · have k1:iLe 64 n=true:=by simp only [ee];simpa using h1
   refine Aq ?_
   refine oPA p2 ?_
   refine Aq ?_
   refine oPA p1 ?_
   have fz:=And.intro n0 (And.intro n1 k1)
   refine Cq ?_
   refine zj rfl rfl (fun c1=>?_) (fun c1=>?_)
   ·
    simp [ee] at c1
    refine Aq ?_
    refine zg rfl rfl ?_
    refine Aq ?_
    refine oPA p0 ?_
    refine Aq ?_
    exact fV
   simp [ee] at c1
 have k1:iLe 64 n=false:=by simp only [ee];simpa using h1
 by_cases h2:12≤d
 · have k2:iLe 12 d=true:=by simp only [ee];simpa using h2
   refine Aq ?_
   refine oPA p2 ?_
   refine Aq ?_
   refine oPA p1 ?_
   have fz:=And.intro n0 (And.intro n1 (And.intro k1 k2))
   refine Cq ?_
   refine zj rfl rfl (fun c1=>?_) (fun c1=>?_)
   ·
    simp [ee] at c1
    refine Aq ?_
    refine zg rfl rfl ?_
    refine Aq ?_
    refine oPA p0 ?_
    refine Aq ?_
    exact fV
   simp [ee] at c1
 have k2:iLe 12 d=false:=by simp only [ee];simpa using h2
 by_cases h3:ck=0
 rotate_left
 · have k3:iNe ck 0=true:=by simp only [ee];simpa using h3
   refine Aq ?_
   refine oPA p2 ?_
   refine Aq ?_
   refine oPA p1 ?_
   have fz:=And.intro n0 (And.intro n1 (And.intro k1 (And.intro k2 k3)))
   refine Cq ?_
   refine zj rfl rfl (fun c1=>?_) (fun c1=>?_)
   ·
    simp [ee] at c1
   simp [ee] at c1
   refine Aq ?_
   refine oPG p3 ?_
   refine Cq ?_
   refine oC (fun c2=>?_) fun c2=>?_
   ·
    simp [ee] at c2
    refine Aq ?_
    refine oPA p0 ?_
    refine Aq ?_
    exact fV
   simp [ee] at c2
 have k3:iNe ck 0=false:=by simp only [ee];simpa using h3
 have p5:=p5 h3 (by omega) (by omega)
 have p6:=p6 h3 (by omega) (by omega)
 refine Aq ?_
 refine oPA p2 ?_
 refine Aq ?_
 refine oPA p1 ?_
 have fz:=And.intro n0 (And.intro n1 (And.intro k1 (And.intro k2 k3)))
 refine Cq ?_
 refine zj rfl rfl (fun c1=>?_) (fun c1=>?_)
 · simp [ee] at c1
 simp [ee] at c1
 refine Aq ?_
 refine oPG p3 ?_
 refine Cq ?_
 refine oC (fun c2=>?_) fun c2=>?_
 · simp [ee] at c2
 simp [ee] at c2
 refine Aq ?_
 refine oPA p4 ?_
 refine Aq ?_
 refine zP rfl (by conv=>lhs;cbv) rfl ?_
 refine oPT pt ?_
 refine tr_gof 2 hX (by conv=>lhs;cbv) ?_ ?_
 · first | exact trivial | (simp only [Cd.ok,ee];and_intros<;>first | omega | rfl | (simp<;>omega))
 refine tr_bslf rfl rfl rfl rfl ?_
 refine tgA ?_
 refine zH ⟨rfl,by simp [zK,zV],?_⟩
 refine Aq ?_
 refine yD (F':=[(62,.agg [int 4,.isl 14 [.agg [int pO,.isl 14 pA,int pT,int pV,int pS,int pN,int pCo,.isl 8 pCa,int pCv,int pCf,int pCk,int pXk,int pXn,str pXt]],int 0,int 0,int 0,int 0,int 0,.isl 8 [],int 0,int 0,int 0,int 0,int 0,str ⟨#[]⟩]),(61,.isl 2 evs),(59,.isl 2 ets),(10,.ptr 2 0),(9,.ptr 1 0),(8,int te),(7,int ti),(3,.ptr 0 0),(0,.isl 2 ets)]) (H':=[.cells [str nm,.isl 2 evs,.isl 1 key,int pO,.isl 14 pA,int pT,int pV,int pS,int pN,int pCo,.isl 8 pCa,int pCv,int pCf,int pCk,int pXk,int pXn,str pXt,.isl 8 es],.cells [int 4,.isl 14 [.agg [int pO,.isl 14 pA,int pT,int pV,int pS,int pN,int pCo,.isl 8 pCa,int pCv,int pCf,int pCk,int pXk,int pXn,str pXt]],int 0,int 0,int 0,int 0,int 0,.isl 8 [],int 0,int 0,int 0,int 0,int 0,str ⟨#[]⟩],.cells [int 7,.isl 14 [.agg [int pO,.isl 14 pA,int pT,int pV,int pS,int pN,int pCo,.isl 8 pCa,int pCv,int pCf,int pCk,int pXk,int pXn,str pXt]],int 0,int 0,int 0,int 0,int 0,.isl 8 [],int 0,int 0,int 0,int 1,int 1,str ⟨#[]⟩]]) ?_ ?_
 · exact (yj [.to 0,.isl 14 ([AV.agg [AV.val (Value.int IntKind.i64 pO),AV.isl 14 pA,AV.val (Value.int IntKind.i64 pT),AV.val (Value.int IntKind.i64 pV),AV.val (Value.int IntKind.i64 pS),AV.val (Value.int IntKind.i64 pN),AV.val (Value.int IntKind.i64 pCo),AV.isl 8 pCa,AV.val (Value.int IntKind.i64 pCv),AV.val (Value.int IntKind.i64 pCf),AV.val (Value.int IntKind.i64 pCk),AV.val (Value.int IntKind.i64 pXk),AV.val (Value.int IntKind.i64 pXn),AV.val (Value.string pXt)]]),.to 1,.to 2] [some 0,some 2,some 3] ⟨⟨by simp,rfl⟩,⟨_,rfl,(zx _ kL1).symm⟩,⟨by simp,rfl⟩,⟨by simp,rfl⟩,trivial⟩ ⟨zk (b:=0) rfl rfl rfl ⟨.refl _,.cl kvs,.cl kks,.refl _,.cl kpA,.refl _,.refl _,.refl _,.refl _,.refl _,.cl kpC,.refl _,.refl _,.refl _,.refl _,.refl _,.refl _,.cl krs,trivial⟩,zk (b:=2) rfl rfl rfl ⟨.refl _,.refl _,.refl _,.refl _,.refl _,.refl _,.refl _,.nilI _,.refl _,.refl _,.refl _,.refl _,.refl _,.refl _,trivial⟩,zk (b:=3) rfl rfl rfl ⟨.refl _,.cl kL1,.refl _,.refl _,.refl _,.refl _,.refl _,.refl _,.refl _,.refl _,.refl _,.refl _,.refl _,.refl _,trivial⟩,trivial⟩ ⟨.agg' ⟨.refl _,.refl _,.refl _,.refl _,.refl _,.refl _,.refl _,.nilI _,.refl _,.refl _,.refl _,.refl _,.refl _,.refl _,trivial⟩,.cl kvs,.cl kts,.refl _,.refl _,.refl _,.refl _,.refl _,.cl kts,trivial⟩)
 refine v6 (args:=[.isl 2 ets,.isl 2 evs,.agg [int 4,.isl 14 [.agg [int pO,.isl 14 pA,int pT,int pV,int pS,int pN,int pCo,.isl 8 pCa,int pCv,int pCf,int pCk,int pXk,int pXn,str pXt]],int 0,int 0,int 0,int 0,int 0,.isl 8 [],int 0,int 0,int 0,int 0,int 0,str ⟨#[]⟩]]) rfl rfl rfl p5 (by rw [AV.closedL,AV.closedL,AV.closedL,kts,kvs,kW4];rfl) ?_
 refine Aq ?_
 refine v6 (args:=[.isl 2 ets,.isl 2 evs,.agg [int 7,.isl 14 [.agg [int pO,.isl 14 pA,int pT,int pV,int pS,int pN,int pCo,.isl 8 pCa,int pCv,int pCf,int pCk,int pXk,int pXn,str pXt]],int 0,int 0,int 0,int 0,int 0,.isl 8 [],int 0,int 0,int 0,int 1,int 1,str ⟨#[]⟩]]) rfl rfl rfl p6 (by rw [AV.closedL,AV.closedL,AV.closedL,kts,kvs,kW7];rfl) ?_
 by_cases h4:te=0
 · have k4:iEq te 0=true:=by simp only [ee];simpa using h4
   have h5:=w1 h4
   subst h5
   have fz:=And.intro n0 (And.intro n1 (And.intro z1 k4))
   refine Cq ?_
   refine nsB hX (by conv=>lhs;cbv) ?_
   refine Cq ?_
   refine oC (fun c1=>?_) fun c1=>?_
   ·
    simp [ee] at c1
   simp [ee] at c1
   refine Cq ?_
   refine nsB hX (by conv=>lhs;cbv) ?_
   refine Cq ?_
   refine zj rfl rfl (fun c2=>?_) (fun c2=>?_)
   ·
    simp [ee] at c2
    refine oPG p0 ?_
    refine Aq ?_
    exact fV
   simp [ee] at c2
 have k4:iEq te 0=false:=by simp only [ee];simpa using h4
 by_cases h5:tw=ti+1
 · have k5:iEq tw (iAdd .i64 ti 1)=true:=by
    have:iAdd .i64 ti 1=ti+1:=wZ e_iAdd (by omega) (by omega)
    rw [this];simp only [ee];simpa using h5
   have fz:=And.intro n0 (And.intro n1 (And.intro z1 (And.intro k4 k5)))
   refine Cq ?_
   refine nsB hX (by conv=>lhs;cbv) ?_
   refine Cq ?_
   refine oC (fun c1=>?_) fun c1=>?_
   ·
    simp [ee] at c1
   simp [ee] at c1
   refine Cq ?_
   refine nsB hX (by conv=>lhs;cbv) ?_
   refine Cq ?_
   refine zj rfl rfl (fun c2=>?_) (fun c2=>?_)
   ·
    simp [ee] at c2
    refine oPG p0 ?_
    refine Aq ?_
    exact fV
   simp [ee] at c2
 obtain ⟨h6,h7⟩:=(w2 h4).resolve_left h5
 subst h6 h7
 have k5:iEq 0 (iAdd .i64 0 1)=false:=by
  have:iAdd .i64 0 1=1:=wZ e_iAdd (by omega) (by omega)
  rw [this];simp only [ee];rfl
 have k6:iEq 0 0=true:=by simp only [ee];rfl
 have fz:=And.intro n0 (And.intro n1 (And.intro z1 (And.intro k4 (And.intro k5 k6))))
 refine Cq ?_
 refine nsB hX (by conv=>lhs;cbv) ?_
 refine Cq ?_
 refine oC (fun c1=>?_) fun c1=>?_
 ·
  simp [ee] at c1
 simp [ee] at c1
 refine Cq ?_
 refine nsB hX (by conv=>lhs;cbv) ?_
 refine Cq ?_
 refine zj rfl rfl (fun c2=>?_) (fun c2=>?_)
 ·
  simp [ee] at c2
  refine oPG p0 ?_
  refine Aq ?_
  exact fV
 simp [ee] at c2
end Go.Am
end
