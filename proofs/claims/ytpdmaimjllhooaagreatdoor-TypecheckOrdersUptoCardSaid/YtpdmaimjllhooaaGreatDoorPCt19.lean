/- Contracts of the program's functions. -/
import Derived.Test.YtpdmaimjllhooaaGreatDoorCards
import Derived.Test.YtpdmaimjllhooaaGreatDoorProg
import Derived.Test.YtpdmaimjllhooaaGreatDoorRows
import Derived.Test.YtpdmaimjllhooaaGreatDoorTie
import Derived.Test.YtpdmaimjllhooaaGreatDoorPCt18
import Derived.Test.YtpdmaimjllhooaaGreatDoorPCt12
section
set_option maxHeartbeats 16000000
set_option maxRecDepth 100000
namespace Go.Am
open Go.Proofs
theorem P_Check1 (ts:List Sch) (x:Qy) {cs:List AV} (hp:x.enc=.agg cs) (hts:x9 ts) (_hx:x.Ok):PCall EL 72 [.iptr [.isl 2 (mapE Sch.enc ts)]] (int (zU ts)):=by
 have p1:=(P_CheckAll ts (by have:=hts.len;omega) hts.sh).toL
 have kts:=Sch.closedI ts
 have kvs:=Vr.closedI x.vs
 have krs:=Ex.closedI x.rets
 have kks:=zq x.key
 obtain ⟨pO,pA,pT,pV,pS,pN,pCo,pCa,pCv,pCf,pCk,pXk,pXn,pXt,he,hpe,kpA,kpC⟩:=Qy.form x
 rw [he] at hp
 try rw [he] at p1
 try rw [hpe] at p1
 injection hp with hp
 subst hp
 generalize tpI ts x.vs x.pat=R1 at *
 generalize tpE ts x.vs x.pat=R2 at *
 generalize zU ts=R3 at *
 generalize nmE x.nm=R4 at *
 generalize tkE ts x=R5 at *
 generalize wQ ts x=R6 at *
 generalize mapE int (vH ts x)=R7 at *
 generalize mapE Sch.enc ts=ets at *
 generalize mapE Vr.enc x.vs=evs at *
 generalize mapE Ex.enc x.rets=rs at *
 generalize mapE int x.key=es at *
 generalize ba x.nm=nm at *
 clear he hpe
 refine zt ?_;unhygienic intros
 refine fB T72 [.t 1] ?_
 refine Aq ?_
 refine oPA p1 ?_
 refine Aq ?_
 exact fV
theorem P_Check2 (ts:List Sch) (x:Qy) {cs:List AV} (hp:x.enc=.agg cs) (_hts:x9 ts) (hx:x.Ok):PCall EL 74 [.iptr cs] (int (nmE x.nm)):=by
 have p1:=P_lxName x.nm hx.nm
 have kts:=Sch.closedI ts
 have kvs:=Vr.closedI x.vs
 have krs:=Ex.closedI x.rets
 have kks:=zq x.key
 obtain ⟨pO,pA,pT,pV,pS,pN,pCo,pCa,pCv,pCf,pCk,pXk,pXn,pXt,he,hpe,kpA,kpC⟩:=Qy.form x
 rw [he] at hp
 try rw [he] at p1
 try rw [hpe] at p1
 injection hp with hp
 subst hp
 generalize tpI ts x.vs x.pat=R1 at *
 generalize tpE ts x.vs x.pat=R2 at *
 generalize zU ts=R3 at *
 generalize nmE x.nm=R4 at *
 generalize tkE ts x=R5 at *
 generalize wQ ts x=R6 at *
 generalize mapE int (vH ts x)=R7 at *
 generalize mapE Sch.enc ts=ets at *
 generalize mapE Vr.enc x.vs=evs at *
 generalize mapE Ex.enc x.rets=rs at *
 generalize mapE int x.key=es at *
 generalize ba x.nm=nm at *
 clear he hpe
 refine zt ?_;unhygienic intros
 refine fB T74 [.t 1] ?_
 refine Aq ?_
 refine oPA p1 ?_
 refine Aq ?_
 exact fV
theorem P_Check3 (ts:List Sch) (x:Qy) {cs:List AV} (hp:x.enc=.agg cs) (hts:x9 ts) (hx:x.Ok):PCall EL 76 [.iptr [.isl 2 (mapE Sch.enc ts)],.iptr cs] (.tup [int (tpI ts x.vs x.pat),int (tpE ts x.vs x.pat)]):=by
 have p1:=xZ ts x.vs x.pat hx.pat hts hx.vs hx.vn
 have kts:=Sch.closedI ts
 have kvs:=Vr.closedI x.vs
 have krs:=Ex.closedI x.rets
 have kks:=zq x.key
 obtain ⟨pO,pA,pT,pV,pS,pN,pCo,pCa,pCv,pCf,pCk,pXk,pXn,pXt,he,hpe,kpA,kpC⟩:=Qy.form x
 rw [he] at hp
 try rw [he] at p1
 try rw [hpe] at p1
 injection hp with hp
 subst hp
 generalize tpI ts x.vs x.pat=R1 at *
 generalize tpE ts x.vs x.pat=R2 at *
 generalize zU ts=R3 at *
 generalize nmE x.nm=R4 at *
 generalize tkE ts x=R5 at *
 generalize wQ ts x=R6 at *
 generalize mapE int (vH ts x)=R7 at *
 generalize mapE Sch.enc ts=ets at *
 generalize mapE Vr.enc x.vs=evs at *
 generalize mapE Ex.enc x.rets=rs at *
 generalize mapE int x.key=es at *
 generalize ba x.nm=nm at *
 clear he hpe
 refine zt ?_;unhygienic intros
 refine fB T76 [.t 2,.t 3] ?_
 refine Aq ?_
 refine oPA p1 ?_
 refine Aq ?_
 exact fE []
theorem P_Check4 (ts:List Sch) (x:Qy) {cs:List AV} (hp:x.enc=.agg cs) (hts:x9 ts) (hx:x.Ok):PCall EL 77 [.iptr [.isl 2 (mapE Sch.enc ts)],.iptr cs] (int (tkE ts x)):=by
 have p1:=P_Key ts x hts hx.vs hx.vn hx.key
 have kts:=Sch.closedI ts
 have kvs:=Vr.closedI x.vs
 have krs:=Ex.closedI x.rets
 have kks:=zq x.key
 obtain ⟨pO,pA,pT,pV,pS,pN,pCo,pCa,pCv,pCf,pCk,pXk,pXn,pXt,he,hpe,kpA,kpC⟩:=Qy.form x
 rw [he] at hp
 try rw [he] at p1
 try rw [hpe] at p1
 injection hp with hp
 subst hp
 generalize tpI ts x.vs x.pat=R1 at *
 generalize tpE ts x.vs x.pat=R2 at *
 generalize zU ts=R3 at *
 generalize nmE x.nm=R4 at *
 generalize tkE ts x=R5 at *
 generalize wQ ts x=R6 at *
 generalize mapE int (vH ts x)=R7 at *
 generalize mapE Sch.enc ts=ets at *
 generalize mapE Vr.enc x.vs=evs at *
 generalize mapE Ex.enc x.rets=rs at *
 generalize mapE int x.key=es at *
 generalize ba x.nm=nm at *
 clear he hpe
 refine zt ?_;unhygienic intros
 refine fB T77 [.t 2] ?_
 refine Aq ?_
 refine oPA p1 ?_
 refine Aq ?_
 exact fV
theorem P_Check5 (ts:List Sch) (x:Qy) {cs:List AV} (hp:x.enc=.agg cs) (hts:x9 ts) (hx:x.Ok):PCall EL 78 [.iptr [.isl 2 (mapE Sch.enc ts)],.iptr cs] (int (wQ ts x)):=by
 have p1:=P_tcReturns ts x hts hx
 have kts:=Sch.closedI ts
 have kvs:=Vr.closedI x.vs
 have krs:=Ex.closedI x.rets
 have kks:=zq x.key
 obtain ⟨pO,pA,pT,pV,pS,pN,pCo,pCa,pCv,pCf,pCk,pXk,pXn,pXt,he,hpe,kpA,kpC⟩:=Qy.form x
 rw [he] at hp
 try rw [he] at p1
 try rw [hpe] at p1
 injection hp with hp
 subst hp
 generalize tpI ts x.vs x.pat=R1 at *
 generalize tpE ts x.vs x.pat=R2 at *
 generalize zU ts=R3 at *
 generalize nmE x.nm=R4 at *
 generalize tkE ts x=R5 at *
 generalize wQ ts x=R6 at *
 generalize mapE int (vH ts x)=R7 at *
 generalize mapE Sch.enc ts=ets at *
 generalize mapE Vr.enc x.vs=evs at *
 generalize mapE Ex.enc x.rets=rs at *
 generalize mapE int x.key=es at *
 generalize ba x.nm=nm at *
 clear he hpe
 refine zt ?_;unhygienic intros
 refine fB T78 [.t 2] ?_
 refine Aq ?_
 refine oPA p1 ?_
 refine Aq ?_
 exact fV
theorem xL (ts:List Sch) (x:Qy) (hts:x9 ts) (hx:x.Ok):PCall EL 24 [.isl 2 (mapE Sch.enc ts),x.enc] (int (y5 ts x)):=by
 obtain ⟨cs,he⟩:∃ cs,x.enc=.agg cs:=⟨_,Qy.enc_eq x⟩
 have kq:AV.closedL cs=true:=by have:=Qy.closed x;rw [he] at this;exact this
 have kone:cs.all AV.one=true:=Qy.one he
 have kts:=Sch.closedI ts
 have kt:AV.closedL [.isl 2 (mapE Sch.enc ts)]=true:=by simp [AV.closedL,kts]
 have k1:AV.closedL [.iptr [.isl 2 (mapE Sch.enc ts)]]=true:=by simp [AV.closedL,zh,kts]
 have k2:AV.closedL [.iptr cs]=true:=by simp [AV.closedL,zh,kq]
 have k3:AV.closedL [.iptr [.isl 2 (mapE Sch.enc ts)],.iptr cs]=true:=by simp [AV.closedL,zh,kts,kq]
 have w1:=x4 72 _ k1
 have w2:=x4 74 _ k2
 have w4:=x4 77 _ k3
 have w5:=x4 78 _ k3
 have q1:=y9 k1 (P_Check1 ts x he hts hx)
 have q2:=y9 k2 (P_Check2 ts x he hts hx)
 have q3:=P_Check3 ts x he hts hx
 have q4:=y9 k3 (P_Check4 ts x he hts hx)
 have q5:=y9 k3 (P_Check5 ts x he hts hx)
 have hr:∀ a b c d e:Prt,a.e=zU ts→b.e=nmE x.nm→c.e=tpE ts x.vs x.pat→d.e=tkE ts x→e.e=wQ ts x→zu Prt.e [a,b,c,d,e]=y5 ts x:=fun a b c d e h1 h2 h3 h4 h5=>by
  simp only [zu,y5,h1,h2,h3,h4,h5]
  by_cases b5:wQ ts x=0<;>simp [b5]
 have qf:=P_firstL [⟨98,_,0,zU ts⟩,⟨98,_,0,nmE x.nm⟩,⟨76,_,tpI ts x.vs x.pat,tpE ts x.vs x.pat⟩,⟨98,_,0,tkE ts x⟩,⟨98,_,0,wQ ts x⟩] (by simp) (by intro p hp;simp only [List.mem_cons,List.not_mem_nil,or_false] at hp;rcases hp with rfl | rfl | rfl | rfl | rfl<;>simp [AV.closedL,zE,zh,kts,kq]) ⟨q1,fun _=>⟨q2,fun _=>⟨q3,fun _=>⟨q4,fun _=>⟨q5,fun _=>trivial⟩⟩⟩⟩⟩
 rw [hr _ _ _ _ _ rfl rfl rfl rfl rfl,zn] at qf
 simp only [List.map_cons,List.map_nil,Prt.enc] at qf
 generalize uC _=R1 at qf
 rw [he]
 generalize y5 ts x=R at *
 clear q1 q2 q3 q4 q5 hr
 generalize mapE Sch.enc ts=ets at *
 clear he
 have k5:AV.closedL [.agg [.fn 98 [.iptr [.fn 72 [.iptr [.isl 2 ets]]]]],.agg [.fn 98 [.iptr [.fn 74 [.iptr cs]]]],.agg [.fn 76 [.iptr [.isl 2 ets],.iptr cs]],.agg [.fn 98 [.iptr [.fn 77 [.iptr [.isl 2 ets],.iptr cs]]]],.agg [.fn 98 [.iptr [.fn 78 [.iptr [.isl 2 ets],.iptr cs]]]]]=true:=by simp [AV.closedL,xD,zE,zh,kts,kq]
 refine zt ?_;unhygienic intros
 refine fB T24 [.t 4] ?_
 refine go rfl hX 0 (by conv=>lhs;cbv) ?_ ?_
 · simp only [Cd.ok];(first | exact trivial | exact kone | (and_intros<;>first | rfl | exact kone))
 refine yD (F':=[(8,.fn 72 [.iptr [.isl 2 ets]]),(3,.iptr cs),(2,.iptr [.isl 2 ets])]) (H':=[]) ?_ ?_
 · exact (yj [.icells ([AV.isl 2 ets]),.icells (cs)] [] ⟨⟨_,rfl,(zx _ kt).symm⟩,⟨_,rfl,(zx _ kq).symm⟩,trivial⟩ trivial ⟨.refl _,.refl _,.refl _,trivial⟩)
 refine oPA w1 ?_
 refine Aq ?_
 refine oPA w2 ?_
 refine Aq ?_
 refine oPA w4 ?_
 refine Aq ?_
 refine oPA w5 ?_
 refine Aq ?_
 refine xX rfl rfl qf rfl ⟨[.isl 1 ([AV.agg [AV.fn 98 [AV.iptr [AV.fn 72 [AV.iptr [AV.isl 2 ets]]]]],AV.agg [AV.fn 98 [AV.iptr [AV.fn 74 [AV.iptr cs]]]],AV.agg [AV.fn 76 [AV.iptr [AV.isl 2 ets],AV.iptr cs]],AV.agg [AV.fn 98 [AV.iptr [AV.fn 77 [AV.iptr [AV.isl 2 ets],AV.iptr cs]]]],AV.agg [AV.fn 98 [AV.iptr [AV.fn 78 [AV.iptr [AV.isl 2 ets],AV.iptr cs]]]]])],⟨⟨_,rfl,(zx _ k5).symm⟩,trivial⟩,⟨.refl _,trivial⟩⟩ ?_
 refine Aq ?_
 exact fV
def tD (l:List Sch):Bool:=l.all fun q=>decide (q.fs.length≤20∧q.nm.length≤100)
def tq (l:List Sch):Bool:=tD l && decide (l.length≤20)
theorem P_Few (l:List Sch) (hl:l.length<1152921504606846976) (_hs:∀ q∈l,q.Short):PCall EE 11 [.isl 2 (mapE Sch.enc l)] (bool (tq l)):=by
 have kcl:=Sch.closedI l
 obtain ⟨R,hR⟩:∃ R,R=tq l:=⟨_,rfl⟩
 rw [← hR]
 rw [tq] at hR
 refine zt ?_;unhygienic intros
 generalize hes:mapE Sch.enc l=es at *
 have hel:es.length=l.length:=by rw [← hes,zr]
 have kR:iLe (lenA es) 20=decide (l.length≤20):=by simp only [ee];rw [Bool.eq_iff_iff];simp;omega
 refine fB T11 [.t 2] ?_
 refine Aq ?_
 refine za (ι:=List Sch × List Sch × Int) (fun p=>([(3,int p.2.2),(0,.isl 2 es)],[])) (fun p=>l=p.1++p.2.1∧p.2.2=p.1.length∧tD p.1=true) (fun p=>p.2.1.length) ([],l,0) ⟨rfl,rfl,rfl⟩ ?_ ?_
 · exact (eS [] [])
 rintro ⟨d,r,i⟩ ⟨g1,gi,gd⟩
 dsimp only at g1 gi gd ⊢
 cases r with
 | nil =>
  have L1:=zw g1
  try simp only [List.length] at L1
  have hc:iLt i (lenA es)=false:=xg e_iLt e_lenA (by omega)
  have e1:R=decide (l.length≤20):=by
   rw [hR]
   rw [List.append_nil] at g1
   rw [← g1] at gd
   rw [gd,Bool.true_and]
  rw [← kR] at e1
  subst e1
  clear hR
  have fz:=hc
  refine Cq ?_
  refine Aq ?_
  refine zl ?_
  refine Aq ?_
  exact fV
 | cons f r =>
  have L1:=zw g1
  try simp only [List.length] at L1
  have hc:iLt i (lenA es)=true:=xf e_iLt e_lenA (by omega)
  have hat:=z7 e_atA hes g1 gi
  rw [Sch.enc_eq] at hat
  have hi2:iAdd .i64 i 1=((d++[f]).length:Int):=by rw [List.length_append];exact yq e_iAdd gi (by omega)
  have hfl:=zr Fld.enc f.fs
  have hsz:=vS f.nm
  have hf1:tD (d++[f])=decide (f.fs.length≤20∧f.nm.length≤100):=by
   rw [tD] at gd ⊢
   rw [List.all_append,gd];simp
  have hf0:¬ (f.fs.length≤20∧f.nm.length≤100)→R=false:=fun h=>by
   rw [hR,tD,g1]
   simp only [List.all_append,List.all_cons]
   rw [decide_eq_false h];simp
  have ka:20<f.fs.length→iLt 20 (lenA (mapE Fld.enc f.fs))=true:=fun h=>by simp only [ee];simp;omega
  have kb:¬ 20<f.fs.length→iLt 20 (lenA (mapE Fld.enc f.fs))=false:=fun h=>by simp only [ee];simp;omega
  have kc:100<f.nm.length→iLt 100 (sLen (ba f.nm))=true:=fun h=>by simp only [ee];simp;omega
  have kd:¬ 100<f.nm.length→iLt 100 (sLen (ba f.nm))=false:=fun h=>by simp only [ee];simp;omega
  generalize mapE Fld.enc f.fs=fe at *
  generalize ba f.nm=fs at *
  by_cases n1:20<f.fs.length
  · have k1:=ka n1
    rw [hf0 (by omega)]
    have fz:=And.intro hc (And.intro hat k1)
    refine Cq ?_
    refine Cr ?_
    refine oC (fun c1=>?_) fun c1=>?_
    ·
     simp [ee] at c1
     refine Aq ?_
     refine zi ?_
     refine Aq ?_
     exact fV
    simp [ee] at c1
  have k1:=kb n1
  by_cases n2:100<f.nm.length
  · have k2:=kc n2
    rw [hf0 (by omega)]
    have fz:=And.intro hc (And.intro hat (And.intro k1 k2))
    refine Cq ?_
    refine Cr ?_
    refine oC (fun c1=>?_) fun c1=>?_
    ·
     simp [ee] at c1
     refine Aq ?_
     refine zi ?_
     refine Aq ?_
     exact fV
    simp [ee] at c1
  have k2:=kd n2
  have hf2:tD (d++[f])=true:=by rw [hf1];exact decide_eq_true (by omega)
  have fz:=And.intro hc (And.intro hat (And.intro k1 k2))
  refine Cq ?_
  refine Cr ?_
  refine oC (fun c1=>?_) fun c1=>?_
  ·
   simp [ee] at c1
  simp [ee] at c1
  refine Aq ?_
  refine zp (d++[f],r,iAdd .i64 i 1) ⟨by simp [g1],hi2,hf2⟩ (by simp) (eS [] [])
def Qy.few (x:Qy):Bool:=decide (x.vs.length≤20∧x.key.length≤30∧x.rets.length≤20∧x.nm.length≤80) && x.pat.few && x.rets.all Ex.few
theorem P_FewQuery (x:Qy) (hx:x.Ok):PCall EE 48 [x.enc] (bool x.few):=by
 have p1:=P_ref09_Few x.pat hx.pat
 have hk:∀ e∈x.rets,PCall EE 12 [e.enc] (bool e.few):=fun e he=>P_ref08_Few e (hx.rets e he)
 have kvs:=Vr.closedI x.vs
 have krs:=Ex.closedI x.rets
 have kks:=zq x.key
 have hrl:=hx.rl
 obtain ⟨R,hR⟩:∃ R,R=x.few:=⟨_,rfl⟩
 rw [← hR]
 unfold Qy.few at hR
 obtain ⟨pO,pA,pT,pV,pS,pN,pCo,pCa,pCv,pCf,pCk,pXk,pXn,pXt,he,hpe,kpA,kpC⟩:=Qy.form x
 rw [hpe] at p1
 rw [he]
 have hvl:(mapE Vr.enc x.vs).length=x.vs.length:=zr ..
 have hkl:(mapE int x.key).length=x.key.length:=zr ..
 have hnl:=vS x.nm
 generalize x.pat.few=pf at *
 generalize x.rets=rets at *
 have hrn:(mapE Ex.enc rets).length=rets.length:=zr ..
 generalize hes:mapE Ex.enc rets=es at *
 generalize mapE Vr.enc x.vs=evs at *
 generalize mapE int x.key=key at *
 generalize ba x.nm=nm at *
 clear he hpe hx
 generalize x.vs.length=lv at *
 generalize x.key.length=lk at *
 generalize x.nm.length=ln at *
 refine zt ?_;unhygienic intros
 have n0:bNot false=true:=by simp only [ee];rfl
 have n1:bNot true=false:=by simp only [ee];rfl
 by_cases h1:20<lv
 · have q1:iLt 20 (lenA evs)=true:=by simp only [ee];simp;omega
   have hR:R=false:=by rw [hR,decide_eq_false (by omega)];simp
   rw [hR]
   refine fB T48 [.t 2] ?_
   have fz:=q1
   refine Cq ?_
   refine zj rfl rfl (fun c1=>?_) (fun c1=>?_)
   ·
    simp [ee] at c1
    refine Aq ?_
    refine zg rfl rfl ?_
    refine Aq ?_
    exact fV
   simp [ee] at c1
 have q1:iLt 20 (lenA evs)=false:=by simp only [ee];simp;omega
 by_cases h2:30<lk
 · have q2:iLt 30 (lenA key)=true:=by simp only [ee];simp;omega
   have hR:R=false:=by rw [hR,decide_eq_false (by omega)];simp
   rw [hR]
   refine fB T48 [.t 2] ?_
   have fz:=And.intro q1 q2
   refine Cq ?_
   refine zj rfl rfl (fun c1=>?_) (fun c1=>?_)
   ·
    simp [ee] at c1
    refine Aq ?_
    refine zg rfl rfl ?_
    refine Aq ?_
    exact fV
   simp [ee] at c1
 have q2:iLt 30 (lenA key)=false:=by simp only [ee];simp;omega
 by_cases h3:20<rets.length
 · have q3:iLt 20 (lenA es)=true:=by simp only [ee];simp;omega
   have hR:R=false:=by rw [hR,decide_eq_false (by omega)];simp
   rw [hR]
   refine fB T48 [.t 2] ?_
   have fz:=And.intro q1 (And.intro q2 q3)
   refine Cq ?_
   refine zj rfl rfl (fun c1=>?_) (fun c1=>?_)
   ·
    simp [ee] at c1
    refine Aq ?_
    refine zg rfl rfl ?_
    refine Aq ?_
    exact fV
   simp [ee] at c1
 have q3:iLt 20 (lenA es)=false:=by simp only [ee];simp;omega
 by_cases h4:80<ln
 · have q4:iLt 80 (sLen nm)=true:=by simp only [ee];simp;omega
   have hR:R=false:=by rw [hR,decide_eq_false (by omega)];simp
   rw [hR]
   refine fB T48 [.t 2] ?_
   have fz:=And.intro q1 (And.intro q2 (And.intro q3 q4))
   refine Cq ?_
   refine zj rfl rfl (fun c1=>?_) (fun c1=>?_)
   ·
    simp [ee] at c1
    refine Aq ?_
    refine zg rfl rfl ?_
    refine Aq ?_
    exact fV
   simp [ee] at c1
 have q4:iLt 80 (sLen nm)=false:=by simp only [ee];simp;omega
 rw [decide_eq_true (by omega),Bool.true_and] at hR
 cases pf with
 | false =>
  rw [hR]
  refine fB T48 [.t 2] ?_
  have fz:=And.intro q1 (And.intro q2 (And.intro q3 (And.intro q4 n0)))
  refine Cq ?_
  refine zj rfl rfl (fun c1=>?_) (fun c1=>?_)
  ·
   simp [ee] at c1
  simp [ee] at c1
  refine Aq ?_
  refine oPG p1 ?_
  refine Cq ?_
  refine oC (fun c2=>?_) fun c2=>?_
  ·
   simp [ee] at c2
   refine Aq ?_
   exact fV
  simp [ee] at c2
 | true =>
 rw [Bool.true_and] at hR
 refine fB T48 [.t 2] ?_
 have fz:=And.intro q1 (And.intro q2 (And.intro q3 (And.intro q4 n1)))
 refine Cq ?_
 refine zj rfl rfl (fun c1=>?_) (fun c1=>?_)
 · simp [ee] at c1
 simp [ee] at c1
 refine Aq ?_
 refine oPG p1 ?_
 refine Cq ?_
 refine oC (fun c2=>?_) fun c2=>?_
 · simp [ee] at c2
 simp [ee] at c2
 refine Aq ?_
 refine za (ι:=List Ex × List Ex × Int) (fun p=>([(3,int p.2.2),(1,.ptr 0 0)],[.cells [str nm,.isl 2 evs,.isl 1 key,int pO,.isl 14 pA,int pT,int pV,int pS,int pN,int pCo,.isl 8 pCa,int pCv,int pCf,int pCk,int pXk,int pXn,str pXt,.isl 8 es]])) (fun p=>rets=p.1++p.2.1∧p.2.2=p.1.length∧R=p.2.1.all Ex.few) (fun p=>p.2.1.length) ([],rets,0) ⟨rfl,rfl,hR⟩ ?_ ?_
 · exact (eS [.to 0] [some 0])
 rintro ⟨d,r,i⟩ ⟨g1,gi,gR⟩
 dsimp only at g1 gi gR ⊢
 cases r with
 | nil =>
  have L1:=zw g1
  try simp only [List.length] at L1
  have hc:iLt i (lenA es)=false:=xg e_iLt e_lenA (by omega)
  rw [gR]
  have fz:=hc
  refine Cq ?_
  refine Aq ?_
  refine zl ?_
  refine Aq ?_
  exact fV
 | cons e r =>
  have L1:=zw g1
  try simp only [List.length] at L1
  have hc:iLt i (lenA es)=true:=xf e_iLt e_lenA (by omega)
  have hat:=z7 e_atA hes g1 gi
  have hi2:iAdd .i64 i 1=((d++[e]).length:Int):=by rw [List.length_append];exact yq e_iAdd gi (by omega)
  have hib:0≤i∧i<lenA es:=by simp only [ee];omega
  have pk:=hk e (by rw [g1];simp)
  rw [List.all_cons] at gR
  have kec:=Ex.closed e
  generalize e.few=fe at *
  obtain ⟨eO,eA,eV,eF,eK,eXk,eXn,eXt,hxe⟩:=Ex.form e
  rw [hxe] at hat pk kec
  clear hk hxe hR
  cases fe with
  | false =>
   rw [gR]
   have fz:=And.intro hc (And.intro hat n0)
   refine Cq ?_
   refine Cr ?_
   refine oPA pk ?_
   refine Cq ?_
   refine Aq ?_
   refine zi ?_
   refine Aq ?_
   exact fV
  | true =>
   rw [Bool.true_and] at gR
   have fz:=And.intro hc (And.intro hat n1)
   refine Cq ?_
   refine Cr ?_
   refine oPA pk ?_
   refine Cq ?_
   refine Aq ?_
   refine zp (d++[e],r,iAdd .i64 i 1) ⟨by rw [g1];simp,hi2,gR⟩ (by simp) (eS [.to 0] [some 0])
def fewP (ts:List Sch) (qs:List Qy):Bool:=tq ts && decide (qs.length≤20) && qs.all Qy.few
theorem P_Few14 (ts:List Sch) (qs:List Qy) (hts:x9 ts) (hqs:qs.length<1048577) (hq:∀ x∈qs,x.Ok) :
 PCall EE 35 [.agg [.isl 2 (mapE Sch.enc ts),.isl 18 (mapE Qy.enc qs)]] (bool (fewP ts qs)):=by
 have p1:=P_Few ts (by have:=hts.len;omega) hts.sh
 have hk:∀ x∈qs,PCall EE 48 [x.enc] (bool x.few):=fun x hx=>P_FewQuery x (hq x hx)
 have kts:=Sch.closedI ts
 have kqs:=Qy.closedI qs
 obtain ⟨R,hR⟩:∃ R,R=fewP ts qs:=⟨_,rfl⟩
 rw [← hR]
 unfold fewP at hR
 have hel:(mapE Qy.enc qs).length=qs.length:=zr ..
 generalize hes:mapE Qy.enc qs=es at *
 generalize mapE Sch.enc ts=ets at *
 generalize tq ts=fb at *
 have kq2:AV.closedL [.isl 2 ets,.isl 18 es]=true:=by simp [AV.closedL,kts,kqs]
 clear hts hq
 refine zt ?_;unhygienic intros
 have n0:bNot false=true:=by simp only [ee];rfl
 have n1:bNot true=false:=by simp only [ee];rfl
 cases fb with
 | false =>
  rw [hR]
  refine fB T35 [.t 2] ?_
  refine Aq ?_
  refine oPA p1 ?_
  have fz:=n0
  refine Cq ?_
  refine oC (fun c1=>?_) fun c1=>?_
  ·
   simp [ee] at c1
   refine Aq ?_
   exact fV
  simp [ee] at c1
 | true =>
 rw [Bool.true_and] at hR
 by_cases h2:20<qs.length
 · have q2:iLt 20 (lenA es)=true:=by simp only [ee];simp;omega
   rw [decide_eq_false (by omega)] at hR
   rw [hR]
   refine fB T35 [.t 2] ?_
   refine Aq ?_
   refine oPA p1 ?_
   have fz:=And.intro n1 q2
   refine Cq ?_
   refine oC (fun c1=>?_) fun c1=>?_
   ·
    simp [ee] at c1
    refine Aq ?_
    exact fV
   simp [ee] at c1
 have q2:iLt 20 (lenA es)=false:=by simp only [ee];simp;omega
 rw [decide_eq_true (by omega),Bool.true_and] at hR
 refine fB T35 [.t 2] ?_
 refine Aq ?_
 refine oPA p1 ?_
 have fz:=And.intro n1 q2
 refine Cq ?_
 refine oC (fun c1=>?_) fun c1=>?_
 · simp [ee] at c1
 simp [ee] at c1
 refine Aq ?_
 refine za (ι:=List Qy × List Qy × Int) (fun p=>([(3,int p.2.2),(1,.ptr 0 0)],[.cells [.isl 2 ets,.isl 18 es]])) (fun p=>qs=p.1++p.2.1∧p.2.2=p.1.length∧R=p.2.1.all Qy.few) (fun p=>p.2.1.length) ([],qs,0) ⟨rfl,rfl,hR⟩ ?_ ?_
 · exact (eS [.to 0] [some 0])
 rintro ⟨d,r,i⟩ ⟨g1,gi,gR⟩
 dsimp only at g1 gi gR ⊢
 cases r with
 | nil =>
  have L1:=zw g1
  try simp only [List.length] at L1
  have hc:iLt i (lenA es)=false:=xg e_iLt e_lenA (by omega)
  rw [gR]
  have fz:=hc
  refine Cq ?_
  refine Aq ?_
  refine zl ?_
  refine Aq ?_
  exact fV
 | cons x r =>
  have L1:=zw g1
  try simp only [List.length] at L1
  have hc:iLt i (lenA es)=true:=xf e_iLt e_lenA (by omega)
  have hat:=z7 e_atA hes g1 gi
  have hi2:iAdd .i64 i 1=((d++[x]).length:Int):=by rw [List.length_append];exact yq e_iAdd gi (by omega)
  have hib:0≤i∧i<lenA es:=by simp only [ee];omega
  have pk:=hk x (by rw [g1];simp)
  rw [List.all_cons] at gR
  generalize x.few=fe at *
  obtain ⟨pO,pA,pT,pV,pS,pN,pCo,pCa,pCv,pCf,pCk,pXk,pXn,pXt,he,hpe,kpA,kpC⟩:=Qy.form x
  have kvs:=Vr.closedI x.vs
  have krs:=Ex.closedI x.rets
  have kks:=zq x.key
  rw [he] at hat pk
  clear hk hR he hpe
  generalize mapE Vr.enc x.vs=evs at *
  generalize mapE Ex.enc x.rets=rs at *
  generalize mapE int x.key=key at *
  generalize ba x.nm=nm at *
  cases fe with
  | false =>
   rw [gR]
   have fz:=And.intro hc (And.intro hat n0)
   refine Cq ?_
   refine Cr ?_
   refine oPA pk ?_
   refine Cq ?_
   refine Aq ?_
   refine zi ?_
   refine Aq ?_
   exact fV
  | true =>
   rw [Bool.true_and] at gR
   have fz:=And.intro hc (And.intro hat n1)
   refine Cq ?_
   refine Cr ?_
   refine oPA pk ?_
   refine Cq ?_
   refine Aq ?_
   refine zp (d++[x],r,iAdd .i64 i 1) ⟨by rw [g1];simp,hi2,gR⟩ (by simp) (eS [.to 0] [some 0])
theorem P_few16 (ts:List Sch) (x:Qy) (hts:x9 ts) (hx:x.Ok):PCall EE 16 [.isl 2 (mapE Sch.enc ts),x.enc] (bool (tq ts && x.few)):=by
 have p1:=P_Few ts (by have:=hts.len;omega) hts.sh
 have p2:=P_FewQuery x hx
 have kts:=Sch.closedI ts
 have kvs:=Vr.closedI x.vs
 have krs:=Ex.closedI x.rets
 have kks:=zq x.key
 obtain ⟨pO,pA,pT,pV,pS,pN,pCo,pCa,pCv,pCf,pCk,pXk,pXn,pXt,he,hpe,kpA,kpC⟩:=Qy.form x
 rw [he] at p2 ⊢
 generalize tq ts=b1 at *
 generalize x.few=b2 at *
 generalize mapE Sch.enc ts=ets at *
 generalize mapE Vr.enc x.vs=evs at *
 generalize mapE Ex.enc x.rets=rs at *
 generalize mapE int x.key=key at *
 generalize ba x.nm=nm at *
 clear he hpe
 refine zt ?_;unhygienic intros
 refine fB T16 [.t 4] ?_
 cases b1 with
 | false =>
  refine Aq ?_
  refine oPA p1 ?_
  refine Aq ?_
  exact fV
 | true =>
  refine Aq ?_
  refine oPA p1 ?_
  refine Aq ?_
  refine oPG p2 ?_
  refine Aq ?_
  exact fV
theorem P_truth16 : PCall EE 28 [] yesE.enc:=by
 have h1:PCall EE 82 [bool true] (.agg [int 1,int 1,str ⟨#[]⟩]):=P_Flag true
 rw [yesE.enc_eq]
 refine zt ?_;unhygienic intros
 refine fB T28 [.cell 0 8 true] ?_
 refine Aq ?_
 refine oPA h1 ?_
 refine Aq ?_
 exact fE [.gone]
theorem P_below16 (e:Ex):PCall EE 45 [e.enc] (yK e).enc:=by
 have hR:(yK e).enc=.agg [int 7,.isl 8 [e.enc,.agg [int 0,.isl 8 [],int 0,int 0,int 0,int 0,int 1,str ⟨#[]⟩]],int 0,int 0,int 0,int 0,int 0,str ⟨#[]⟩]:=by
  simp only [yK,Ex.enc_mk,zn,List.map_cons,List.map_nil,Vl0]
 rw [hR]
 have c1:=Ex.closed e
 obtain ⟨eO,eA,eV,eF,eK,eXk,eXn,eXt,hx1⟩:=Ex.form e
 rw [hx1] at c1 ⊢
 clear hR hx1
 refine PCall.weak2 (v:=.agg [int 7,.isl 8 [.agg [int eO,.isl 8 eA,int eV,int eF,int eK,int eXk,int eXn,str eXt],.agg [int 0,.val (.slice none 0 0),int 0,int 0,int 0,int 0,int 1,str ⟨#[]⟩]],int 0,int 0,int 0,int 0,int 0,str ⟨#[]⟩]) ?_ ?_
 rotate_left
 · exact .agg' ⟨.refl _,.isl' ⟨.refl _,⟨.refl _,.nilI _,.refl _,.refl _,.refl _,.refl _,.refl _,.refl _,trivial⟩,trivial⟩,.refl _,.refl _,.refl _,.refl _,.refl _,.refl _,trivial⟩
 refine zt ?_;unhygienic intros
 refine fB T45 [.cell 2 8 true] ?_
 refine Aq ?_
 refine zD rfl rfl ?_
 have hp1:∀ σ,AV.sub σ (.agg [int eO,.isl 8 eA,int eV,int eF,int eK,int eXk,int eXn,str eXt])=.agg [int eO,.isl 8 eA,int eV,int eF,int eK,int eXk,int eXn,str eXt]:=fun σ=>zY _ _ _ (Nat.le_refl _) c1
 exact ⟨[.gone,.gone,.isl 8 [.agg [int eO,.isl 8 eA,int eV,int eF,int eK,int eXk,int eXn,str eXt],.agg [int 0,.val (.slice none 0 0),int 0,int 0,int 0,int 0,int 1,str ⟨#[]⟩]]],⟨trivial,trivial,⟨_,rfl,by simp only [AV.subL,hp1];rfl⟩,trivial⟩,.of rfl⟩
theorem tsX_enc : mapE Sch.enc tsX=[.agg [str ⟨#[65]⟩,.isl 2 [.agg [str ⟨#[120]⟩,int 0],.agg [str ⟨#[115]⟩,int 2]]],.agg [str ⟨#[66]⟩,.isl 2 [.agg [str ⟨#[115]⟩,int 2]]]]:=by
 simp only [tsX,zn,List.map_cons,List.map_nil,Sch.enc_eq,Fld.enc_eq,w7]
theorem P_schemas : PCall EE 43 [] (.isl 2 (mapE Sch.enc tsX)):=by
 rw [tsX_enc]
 refine zt ?_;unhygienic intros
 refine fB T43 [.t 0] ?_
 refine Aq ?_
 exact fE [.gone,.isl 2 [.agg [str ⟨#[120]⟩,int 0],.agg [str ⟨#[115]⟩,int 2]],.isl 2 [.agg [str ⟨#[115]⟩,int 2]],.isl 2 [.agg [str ⟨#[65]⟩,.isl 2 [.agg [str ⟨#[120]⟩,int 0],.agg [str ⟨#[115]⟩,int 2]]],.agg [str ⟨#[66]⟩,.isl 2 [.agg [str ⟨#[115]⟩,int 2]]]]]
theorem P_example16 (key:List Int):PCall EE 44 [.isl 1 (mapE int key)] (qX key [zB 0]).enc:=by
 have p1:=P_truth16
 rw [yesE.enc_eq] at p1
 have kk:=zq key
 rw [Qy.enc_eq]
 have hR:(AV.agg ([str (ba (qX key [zB 0]).nm),.isl 2 (mapE Vr.enc (qX key [zB 0]).vs),.isl 1 (mapE int (qX key [zB 0]).key)]++(qX key [zB 0]).pat.enc.cells++[.isl 8 (mapE Ex.enc (qX key [zB 0]).rets)])) =
  .agg [str ⟨#[113]⟩,.isl 2 [.agg [str ⟨#[97]⟩,int 0],.agg [str ⟨#[98]⟩,int 1]],.isl 1 (mapE int key),int 1,.isl 14 [.agg [int 0,.isl 14 [],int 0,int 0,int 0,int 0,int 0,.isl 8 [],int 0,int 0,int 0,int 1,int 1,str ⟨#[]⟩],.agg [int 0,.isl 14 [],int 1,int 1,int 0,int 0,int 0,.isl 8 [],int 0,int 0,int 0,int 1,int 1,str ⟨#[]⟩]],int 0,int 0,int 0,int 0,int 0,.isl 8 [],int 0,int 0,int 0,int 0,int 0,str ⟨#[]⟩,.isl 8 [.agg [int 1,.isl 8 [],int 0,int 0,int 0,int 0,int 0,str ⟨#[]⟩]]]:=by
  have e1:mapE Vr.enc vsX=[.agg [str ⟨#[97]⟩,int 0],.agg [str ⟨#[98]⟩,int 1]]:=by simp only [vsX,zn,List.map_cons,List.map_nil,Vr.enc_eq,w7]
  have e2:mapE Ex.enc [zB 0]=[.agg [int 1,.isl 8 [],int 0,int 0,int 0,int 0,int 0,str ⟨#[]⟩]]:=by simp only [zB,zn,List.map_cons,List.map_nil,Ex.enc_mk,Vl0]
  have e3:patX.enc=.agg [int 1,.isl 14 [.agg [int 0,.isl 14 [],int 0,int 0,int 0,int 0,int 0,.isl 8 [],int 0,int 0,int 0,int 1,int 1,str ⟨#[]⟩],.agg [int 0,.isl 14 [],int 1,int 1,int 0,int 0,int 0,.isl 8 [],int 0,int 0,int 0,int 1,int 1,str ⟨#[]⟩]],int 0,int 0,int 0,int 0,int 0,.isl 8 [],int 0,int 0,int 0,int 0,int 0,str ⟨#[]⟩]:=by
   simp only [patX,evX,Ex0,yesE,Pat.enc_mk,zn,List.map_cons,List.map_nil,Vl0]
  show AV.agg ([str (ba [113]),.isl 2 (mapE Vr.enc vsX),.isl 1 (mapE int key)]++patX.enc.cells++[.isl 8 (mapE Ex.enc [zB 0])])=_
  rw [e1,e2,e3,w7];rfl
 rw [hR]
 clear hR
 generalize mapE int key=ks at *
 refine PCall.weak2 (v:=.agg [str ⟨#[113]⟩,.isl 2 [.agg [str ⟨#[97]⟩,int 0],.agg [str ⟨#[98]⟩,int 1]],.isl 1 ks,int 1,.isl 14 [.agg [int 0,.val (.slice none 0 0),int 0,int 0,int 0,int 0,int 0,.isl 8 [],int 0,int 0,int 0,int 1,int 1,str ⟨#[]⟩],.agg [int 0,.val (.slice none 0 0),int 1,int 1,int 0,int 0,int 0,.isl 8 [],int 0,int 0,int 0,int 1,int 1,str ⟨#[]⟩]],int 0,int 0,int 0,int 0,int 0,.val (.slice none 0 0),int 0,int 0,int 0,int 0,int 0,str ⟨#[]⟩,.isl 8 [.agg [int 1,.val (.slice none 0 0),int 0,int 0,int 0,int 0,int 0,str ⟨#[]⟩]]]) ?_ ?_
 rotate_left
 · exact .agg' ⟨.refl _,.refl _,.refl _,.refl _,.isl' ⟨⟨.refl _,.nilI _,.refl _,.refl _,.refl _,.refl _,.refl _,.refl _,.refl _,.refl _,.refl _,.refl _,.refl _,.refl _,trivial⟩,⟨.refl _,.nilI _,.refl _,.refl _,.refl _,.refl _,.refl _,.refl _,.refl _,.refl _,.refl _,.refl _,.refl _,.refl _,trivial⟩,trivial⟩,.refl _,.refl _,.refl _,.refl _,.refl _,.nilI _,.refl _,.refl _,.refl _,.refl _,.refl _,.refl _,.isl' ⟨⟨.refl _,.nilI _,.refl _,.refl _,.refl _,.refl _,.refl _,.refl _,trivial⟩,trivial⟩,trivial⟩
 refine zt ?_;unhygienic intros
 refine fB T44 [.cell 2 18 true] ?_
 refine Aq ?_
 refine oPA p1 ?_
 refine Aq ?_
 refine oPA p1 ?_
 refine Aq ?_
 refine zD rfl rfl ?_
 exact ⟨[.gone,.isl 14 ([AV.agg [AV.val (Value.int IntKind.i64 0),AV.val (Value.slice none 0 0),AV.val (Value.int IntKind.i64 0),AV.val (Value.int IntKind.i64 0),AV.val (Value.int IntKind.i64 0),AV.val (Value.int IntKind.i64 0),AV.val (Value.int IntKind.i64 0),AV.isl 8 [],AV.val (Value.int IntKind.i64 0),AV.val (Value.int IntKind.i64 0),AV.val (Value.int IntKind.i64 0),AV.val (Value.int IntKind.i64 1),AV.val (Value.int IntKind.i64 1),AV.val (Value.string { data:={ toList:=[] } })],AV.agg [AV.val (Value.int IntKind.i64 0),AV.val (Value.slice none 0 0),AV.val (Value.int IntKind.i64 1),AV.val (Value.int IntKind.i64 1),AV.val (Value.int IntKind.i64 0),AV.val (Value.int IntKind.i64 0),AV.val (Value.int IntKind.i64 0),AV.isl 8 [],AV.val (Value.int IntKind.i64 0),AV.val (Value.int IntKind.i64 0),AV.val (Value.int IntKind.i64 0),AV.val (Value.int IntKind.i64 1),AV.val (Value.int IntKind.i64 1),AV.val (Value.string { data:={ toList:=[] } })]]),.gone,.isl 2 ([AV.agg [AV.val (Value.string { data:={ toList:=[97] } }),AV.val (Value.int IntKind.i64 0)],AV.agg [AV.val (Value.string { data:={ toList:=[98] } }),AV.val (Value.int IntKind.i64 1)]]),.isl 8 ([AV.agg [AV.val (Value.int IntKind.i64 1),AV.val (Value.slice none 0 0),AV.val (Value.int IntKind.i64 0),AV.val (Value.int IntKind.i64 0),AV.val (Value.int IntKind.i64 0),AV.val (Value.int IntKind.i64 0),AV.val (Value.int IntKind.i64 0),AV.val (Value.string { data:={ toList:=[] } })]])],⟨trivial,⟨_,rfl,(zx _ (by rfl)).symm⟩,trivial,⟨_,rfl,(zx _ (by rfl)).symm⟩,⟨_,rfl,(zx _ (by rfl)).symm⟩,trivial⟩,.agg' ⟨.refl _,.refl _,.cl kk,.refl _,.refl _,.refl _,.refl _,.refl _,.refl _,.refl _,.refl _,.refl _,.refl _,.refl _,.refl _,.refl _,.refl _,.refl _,trivial⟩⟩
theorem up : x9 tsX:=⟨by simp [tsX],fun q hq=>by
 simp only [tsX,List.mem_cons,List.not_mem_nil,or_false] at hq
 rcases hq with rfl | rfl<;>(refine ⟨by simp,by simp,fun f hf=>?_⟩;simp at hf;(try rcases hf with rfl | rfl)<;>(try subst hf)<;>simp),fun q hq=>by
 simp only [tsX,List.mem_cons,List.not_mem_nil,or_false] at hq
 rcases hq with rfl | rfl<;>simp⟩
theorem tL (key:List Int) (r:List Ex) (hk:key.length<1048577) (hr:r=[zB 0]∨r=[]):(qX key r).Ok where
 vs:=by simp [qX,vsX]
 vn:=fun v hv=>by simp [qX,vsX] at hv;rcases hv with rfl | rfl<;>simp
 key:=hk
 pat:=patX_sm
 rets:=fun e he=>by
  rcases hr with rfl | rfl
  · simp [qX] at he;rw [he];exact fld_sm 0
  simp [qX] at he
 rl:=by rcases hr with rfl | rfl<;>simp [qX]
 nm:=by simp [qX]
theorem fld_enc (f:Int):(zB f).enc=.agg [int 1,.isl 8 [],int 0,int f,int 0,int 0,int 0,str ⟨#[]⟩]:=by
 rw [zB,Ex.enc_mk,zn];rfl
abbrev fldN (f:Int):AV:=.agg [int 1,.val (.slice none 0 0),int 0,int f,int 0,int 0,int 0,str ⟨#[]⟩]
theorem fld_wk (f:Int):Wk2 0 (fldN f) (zB f).enc:=by
 rw [fld_enc]
 exact .agg' ⟨.refl _,.nilI _,.refl _,.refl _,.refl _,.refl _,.refl _,.refl _,trivial⟩
theorem P_awake16 : PCall EL 13 [] (bool true):=by
 have q1:=P_schemas.toL
 have x1:=(P_example16 [1,0]).toL
 have x2:=(P_example16 [0,0]).toL
 have x3:=(P_example16 [1,-1]).toL
 have b0:=((P_below16 (zB 0)).weakA (args:=[fldN 0]) ⟨fld_wk 0,trivial⟩).toL
 have b1:=((P_below16 (zB 1)).weakA (args:=[fldN 1]) ⟨fld_wk 1,trivial⟩).toL
 have c1:=(P_Condition tsX vsX (yK (zB 0)) up (by simp [vsX]) (blw_sm 0)).toL
 have c2:=((P_Condition tsX vsX (zB 0) up (by simp [vsX]) (fld_sm 0)).weakA (args:=[.isl 2 (mapE Sch.enc tsX),.isl 2 (mapE Vr.enc vsX),fldN 0]) ⟨.refl _,.refl _,fld_wk 0,trivial⟩).toL
 have c3:=(P_Condition tsX vsX (yK (zB 1)) up (by simp [vsX]) (blw_sm 1)).toL
 have r1:=P_tcReturns tsX (qX [1,0] [zB 0]) up (tL _ _ (by simp) (.inl rfl))
 have pt:=xZ tsX vsY patX patX_sm up (by simp [vsY]) (fun v hv=>by simp [vsY] at hv;rcases hv with rfl | rfl<;>simp)
 have k1:=xL tsX (qX [1,0] [zB 0]) up (tL _ _ (by simp) (.inl rfl))
 have k2:=xL tsX (qX [0,0] [zB 0]) up (tL _ _ (by simp) (.inl rfl))
 have k3:=xL tsX (qX [1,-1] [zB 0]) up (tL _ _ (by simp) (.inl rfl))
 have k4:=xL tsX (qX [1,0] []) up (tL _ _ (by simp) (.inr rfl))
 have e1:=(P_Equal [0] (by simp)).toL
 rw [cndX1] at c1
 rw [cndX2] at c2
 rw [cndX3] at c3
 rw [(rtsX _).1,(rtsX _).2] at r1
 rw [tpY.1,tpY.2] at pt
 rw [chkX1] at k1
 rw [chkX2] at k2
 rw [chkX3] at k3
 rw [chkX4] at k4
 obtain ⟨pO,pA,pT,pV,pS,pN,pCo,pCa,pCv,pCf,pCk,pXk,pXn,pXt,hp⟩:=Pat.form patX
 have hpc:=Pat.closed patX
 have kts:=Sch.closedI tsX
 have krs:=Ex.closedI [zB 0]
 have ev:mapE Vr.enc vsX=[.agg [str (ba [97]),int 0],.agg [str (ba [98]),int 1]]:=by simp only [vsX,zn,List.map_cons,List.map_nil,Vr.enc_eq]
 have ew:mapE Vr.enc vsY=[.agg [str (ba [98]),int 1],.agg [str (ba [97]),int 0]]:=by simp only [vsY,zn,List.map_cons,List.map_nil,Vr.enc_eq]
 have hq:∀ key r,(qX key r).enc=.agg [str (ba [113]),.isl 2 [.agg [str (ba [97]),int 0],.agg [str (ba [98]),int 1]],.isl 1 (mapE int key),int pO,.isl 14 pA,int pT,int pV,int pS,int pN,int pCo,.isl 8 pCa,int pCv,int pCf,int pCk,int pXk,int pXn,str pXt,.isl 8 (mapE Ex.enc r)]:=fun key r=>by
  rw [Qy.enc_eq]
  show AV.agg ([str (ba [113]),.isl 2 (mapE Vr.enc vsX),.isl 1 (mapE int key)]++patX.enc.cells++[.isl 8 (mapE Ex.enc r)])=_
  rw [ev,hp];rfl
 have hn:mapE Ex.enc []=[]:=by rw [zn];rfl
 rw [hq] at x1 x2 x3 r1 k1 k2 k3 k4
 rw [hn] at k4
 have k4:=k4.weakA (args:=[.isl 2 (mapE Sch.enc tsX),.agg [str (ba [113]),.isl 2 [.agg [str (ba [97]),int 0],.agg [str (ba [98]),int 1]],.isl 1 (mapE int [1,0]),int pO,.isl 14 pA,int pT,int pV,int pS,int pN,int pCo,.isl 8 pCa,int pCv,int pCf,int pCk,int pXk,int pXn,str pXt,.val (.slice none 0 0)]]) ⟨.refl _,.agg' ⟨.refl _,.refl _,.refl _,.refl _,.refl _,.refl _,.refl _,.refl _,.refl _,.refl _,.refl _,.refl _,.refl _,.refl _,.refl _,.refl _,.refl _,.nilI _,trivial⟩,trivial⟩
 rw [ew,hp] at pt
 rw [ev] at c1 c2 c3
 have h10:mapE int [1,0]=[int 1,int 0]:=by rw [zn];rfl
 have h00:mapE int [0,0]=[int 0,int 0]:=by rw [zn];rfl
 have h1m:mapE int [1,-1]=[int 1,int (-1)]:=by rw [zn];rfl
 have h0:mapE int [0]=[int 0]:=by rw [zn];rfl
 rw [h10] at x1 r1 k1 k4
 rw [h00] at x2 k2
 rw [h1m] at x3 k3
 rw [h0] at r1 e1
 rw [hp] at hpc
 have kpA:(AV.isl 14 pA).closed=true:=by have:=hpc;simp [AV.closed,AV.closedL] at this ⊢;exact this.1
 have kpC:(AV.isl 8 pCa).closed=true:=by have:=hpc;simp [AV.closed,AV.closedL] at this ⊢;exact this.2
 have kb0:=Ex.closed (yK (zB 0))
 have kb1:=Ex.closed (yK (zB 1))
 clear hq hp ev ew h10 h00 h1m h0 hn hpc
 generalize mapE Sch.enc tsX=T at *
 generalize mapE Ex.enc [zB 0]=rs at *
 generalize ba [113]=nm at *
 generalize ba [97]=na at *
 generalize ba [98]=nb at *
 generalize yK (zB 0)=e0 at *
 generalize yK (zB 1)=e1x at *
 obtain ⟨e0O,e0A,e0V,e0F,e0K,e0Xk,e0Xn,e0Xt,hx0⟩:=Ex.form e0
 obtain ⟨e1xO,e1xA,e1xV,e1xF,e1xK,e1xXk,e1xXn,e1xXt,hx1⟩:=Ex.form e1x
 rw [hx0] at b0 c1 kb0
 rw [hx1] at b1 c3 kb1
 clear hx0 hx1
 have kv:(AV.isl 2 [.agg [str na,int 0],.agg [str nb,int 1]]).closed=true:=rfl
 have kw:(AV.isl 2 [.agg [str nb,int 1],.agg [str na,int 0]]).closed=true:=rfl
 have kk1:(AV.isl 1 [int 1,int 0]).closed=true:=rfl
 have kk2:(AV.isl 1 [int 0,int 0]).closed=true:=rfl
 have kk3:(AV.isl 1 [int 1,int (-1)]).closed=true:=rfl
 have kk0:(AV.isl 1 [int 0]).closed=true:=rfl
 refine zt ?_;unhygienic intros
 have z1:∀ x:Int,iNe x x=false:=fun x=>by simp only [ee];simp
 have z2:∀ x:Int,iEq x x=true:=fun x=>by simp only [ee];simp
 refine fB T13 [.t 0] ?_
 have hv0:atA [.agg [str na,int 0],.agg [str nb,int 1]] 0=.agg [str na,int 0]:=by simp only [ee];rfl
 have hv1:atA [.agg [str na,int 0],.agg [str nb,int 1]] 1=.agg [str nb,int 1]:=by simp only [ee];rfl
 refine Aq ?_
 refine oPA q1 ?_
 refine Aq ?_
 refine yD (F':=[(11,.isl 1 [int 1,int 0]),(10,.isl 2 T)]) (H':=[]) ?_ ?_
 · exact (yj [.isl 1 ([AV.val (Value.int IntKind.i64 1),AV.val (Value.int IntKind.i64 0)])] [] ⟨⟨_,rfl,(zx _ (by rfl)).symm⟩,trivial⟩ trivial ⟨.refl _,.cl kts,trivial⟩)
 refine oPA x1 ?_
 refine Aq ?_
 refine oPA r1 ?_
 have fz:=And.intro z1 (And.intro z2 (And.intro hv0 hv1))
 refine Cq ?_
 refine zP rfl (by conv=>lhs;cbv) rfl ?_
 refine tr_gof 9 hX (by conv=>lhs;cbv;try simp only [hv0,hv1];cbv;try simp only [hv0,hv1];cbv;try simp only [hv0,hv1];cbv;try simp only [hv0,hv1];cbv) ?_ ?_
 · first | exact trivial | (simp only [Cd.ok,ee];and_intros<;>first | omega | rfl | (simp<;>omega))
 refine tr_bslf rfl rfl rfl rfl ?_
 have fz:=And.intro hv0 hv1
 refine tgC ?_
 refine oPT pt ?_
 refine tgA ?_
 refine zH ⟨rfl,by simp [zK,zV],?_⟩
 refine Aq ?_
 refine yD (F':=[(37,.isl 1 [int 1,int 0]),(8,int 9),(7,int 1),(6,int 0),(5,.isl 1 [int 0]),(4,.ptr 2 0),(3,.ptr 1 0),(2,.ptr 0 0),(1,.isl 2 T)]) (H':=[.cells [str nm,.isl 2 [.agg [str na,int 0],.agg [str nb,int 1]],.isl 1 [int 1,int 0],int pO,.isl 14 pA,int pT,int pV,int pS,int pN,int pCo,.isl 8 pCa,int pCv,int pCf,int pCk,int pXk,int pXn,str pXt,.isl 8 rs],.cells [int 1,.val (.slice none 0 0),int 0,int 0,int 0,int 0,int 0,str ⟨#[]⟩],.cells [int 1,.val (.slice none 0 0),int 0,int 1,int 0,int 0,int 0,str ⟨#[]⟩]]) ?_ ?_
 · exact (yj [.to 0,.to 1,.to 2,.isl 1 ([AV.val (Value.int IntKind.i64 1),AV.val (Value.int IntKind.i64 0)])] [some 0,some 1,some 2] ⟨⟨by simp,rfl⟩,⟨by simp,rfl⟩,⟨by simp,rfl⟩,⟨_,rfl,(zx _ (by rfl)).symm⟩,trivial⟩ ⟨zk (b:=0) rfl rfl rfl ⟨.refl _,.refl _,.refl _,.refl _,.cl kpA,.refl _,.refl _,.refl _,.refl _,.refl _,.cl kpC,.refl _,.refl _,.refl _,.refl _,.refl _,.refl _,.cl krs,trivial⟩,zk (b:=1) rfl rfl rfl ⟨.refl _,.refl _,.refl _,.refl _,.refl _,.refl _,.refl _,.refl _,trivial⟩,zk (b:=2) rfl rfl rfl ⟨.refl _,.refl _,.refl _,.refl _,.refl _,.refl _,.refl _,.refl _,trivial⟩,trivial⟩ ⟨.refl _,.refl _,.refl _,.refl _,.refl _,.refl _,.refl _,.refl _,.cl kts,trivial⟩)
 refine oPA x1 ?_
 refine Aq ?_
 refine zP rfl (by conv=>lhs;cbv) rfl ?_
 refine tgA ?_
 refine oPT b0 ?_
 refine oPT c1 ?_
 refine tgA ?_
 have fz:=And.intro z1 (And.intro z2 (And.intro hv0 hv1))
 refine tgC ?_
 refine zf rfl ?_
 refine tgA ?_
 refine zf rfl ?_
 refine tgA ?_
 refine zf rfl ?_
 refine tgA ?_
 refine zf rfl ?_
 refine tgA ?_
 refine zf rfl ?_
 refine oPT c2 ?_
 refine zf rfl ?_
 refine tgA ?_
 refine tgC ?_
 refine zf rfl ?_
 refine tgA ?_
 refine zf rfl ?_
 refine tgA ?_
 refine zf rfl ?_
 refine tgA ?_
 refine zf rfl ?_
 refine tgA ?_
 refine zf rfl ?_
 refine oPT b1 ?_
 refine zf rfl ?_
 refine oPT c3 ?_
 refine zf rfl ?_
 refine tgA ?_
 refine zH ⟨rfl,by simp [zK,zV],?_⟩
 refine Cq ?_
 refine Aq ?_
 refine oPA k1 ?_
 refine Cq ?_
 refine zj rfl rfl (fun c1=>?_) (fun c1=>?_)
 rotate_left
 · simp [ee] at c1
 simp [ee] at c1
 refine Aq ?_
 refine xX rfl rfl e1 rfl ⟨[.gone,.gone,.gone,.gone,.isl 1 ([AV.val (Value.int IntKind.i64 0)])],⟨trivial,trivial,trivial,trivial,⟨_,rfl,(zx _ (by rfl)).symm⟩,trivial⟩,⟨.refl _,.refl _,trivial⟩⟩ ?_
 refine Aq ?_
 refine yD (F':=[(79,.isl 1 [int 0,int 0]),(78,.isl 2 T),(77,.val (.bool true)),(9,.ptr 0 0),(8,int 9),(7,int 1),(1,.isl 2 T)]) (H':=[.cells [str nm,.isl 2 [.agg [str na,int 0],.agg [str nb,int 1]],.isl 1 [int 1,int 0],int pO,.isl 14 pA,int pT,int pV,int pS,int pN,int pCo,.isl 8 pCa,int pCv,int pCf,int pCk,int pXk,int pXn,str pXt,.val (.slice none 0 0)]]) ?_ ?_
 · exact (yj [.gone,.gone,.gone,.to 0,.gone,.isl 1 ([AV.val (Value.int IntKind.i64 0),AV.val (Value.int IntKind.i64 0)])] [some 3] ⟨trivial,trivial,trivial,⟨by simp,rfl⟩,trivial,⟨_,rfl,(zx _ (by rfl)).symm⟩,trivial⟩ ⟨zk (b:=3) rfl rfl rfl ⟨.refl _,.refl _,.refl _,.refl _,.cl kpA,.refl _,.refl _,.refl _,.refl _,.refl _,.cl kpC,.refl _,.refl _,.refl _,.refl _,.refl _,.refl _,.refl _,trivial⟩,trivial⟩ ⟨.refl _,.cl kts,.refl _,.refl _,.refl _,.refl _,.cl kts,trivial⟩)
 refine oPG x2 ?_
 refine oPG k2 ?_
 refine Cq ?_
 refine zj rfl rfl (fun c1=>?_) (fun c1=>?_)
 rotate_left
 · simp [ee] at c1
 simp [ee] at c1
 refine Aq ?_
 refine yD (F':=[(86,.isl 1 [int 1,int (-1)]),(85,.isl 2 T),(84,.val (.bool true)),(9,.ptr 0 0),(8,int 9),(7,int 1),(1,.isl 2 T)]) (H':=[.cells [str nm,.isl 2 [.agg [str na,int 0],.agg [str nb,int 1]],.isl 1 [int 1,int 0],int pO,.isl 14 pA,int pT,int pV,int pS,int pN,int pCo,.isl 8 pCa,int pCv,int pCf,int pCk,int pXk,int pXn,str pXt,.val (.slice none 0 0)]]) ?_ ?_
 · exact (yj [.to 0,.isl 1 ([AV.val (Value.int IntKind.i64 1),AV.val (Value.int IntKind.i64 (-1))])] [some 0] ⟨⟨by simp,rfl⟩,⟨_,rfl,(zx _ (by rfl)).symm⟩,trivial⟩ ⟨zk (b:=0) rfl rfl rfl ⟨.refl _,.refl _,.refl _,.refl _,.cl kpA,.refl _,.refl _,.refl _,.refl _,.refl _,.cl kpC,.refl _,.refl _,.refl _,.refl _,.refl _,.refl _,.refl _,trivial⟩,trivial⟩ ⟨.refl _,.cl kts,.refl _,.refl _,.refl _,.refl _,.cl kts,trivial⟩)
 refine oPG x3 ?_
 refine oPG k3 ?_
 refine Cq ?_
 refine zj rfl rfl (fun c1=>?_) (fun c1=>?_)
 ·
  simp [ee] at c1
  refine Aq ?_
  refine oPG k4 ?_
  refine Aq ?_
  exact fBo (h:=by simp only [ee];rfl)
 simp [ee] at c1
end Go.Am
end
