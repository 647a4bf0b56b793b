/- Contracts of the program's functions. -/
import Derived.Test.YtpdmaimjllhooaaGreatDoorCards
import Derived.Test.YtpdmaimjllhooaaGreatDoorProg
import Derived.Test.YtpdmaimjllhooaaGreatDoorRows
import Derived.Test.YtpdmaimjllhooaaGreatDoorTie
import Derived.Test.YtpdmaimjllhooaaGreatDoorPCt17
section
set_option maxHeartbeats 16000000
set_option maxRecDepth 100000
namespace Go.Am
open Go.Proofs
structure Qy.Ok (x:Qy):Prop where
 vs:x.vs.length<1048577
 vn:∀ v∈x.vs,v.nm.length<1048577
 key:x.key.length<1048577
 pat:x.pat.Sm
 rets:∀ e∈x.rets,e.Sm
 rl:x.rets.length<1048577
 nm:x.nm.length<1048577
theorem Qy.closed (x:Qy):x.enc.closed=true:=by
 obtain ⟨pO,pA,pT,pV,pS,pN,pCo,pCa,pCv,pCf,pCk,pXk,pXn,pXt,he,hpe,kpA,kpC⟩:=Qy.form x
 rw [he]
 simp [xD,AV.closedL,y6,Vr.closedI,Ex.closedI,zq,kpA,kpC]
theorem Qy.one {x:Qy} {cs:List AV} (h:x.enc=.agg cs):cs.all AV.one=true:=by
 obtain ⟨pO,pA,pT,pV,pS,pN,pCo,pCa,pCv,pCf,pCk,pXk,pXn,pXt,he,hpe,kpA,kpC⟩:=Qy.form x
 rw [he] at h
 injection h with h
 subst h
 rfl
theorem Qy.closedL (l:List Qy):AV.closedL (mapE Qy.enc l)=true:=xb Qy.closed l
theorem Qy.closedI (l:List Qy):(AV.isl 18 (mapE Qy.enc l)).closed=true:=by simp [AV.closed,Qy.closedL]
theorem enters_typecheck_Returns_3 : yz EE.P 68:=enters_of rfl (by decide) T68.2
theorem P_Returns1 (ts:List Sch) (x:Qy) {cs:List AV} (hp:x.enc=.agg cs) (hts:x9 ts) (hx:x.Ok):PCall EL 66 [.iptr [.isl 2 (mapE Sch.enc ts)],.iptr cs] (.tup [int (tpI ts x.vs x.pat),int (tpE ts x.vs x.pat)]):=by
 have p1:=xZ ts x.vs x.pat hx.pat hts hx.vs hx.vn
 have kts:=Sch.closedI ts
 have kvs:=Vr.closedI x.vs
 have krs:=Ex.closedI x.rets
 have kks:=zq x.key
 obtain ⟨pO,pA,pT,pV,pS,pN,pCo,pCa,pCv,pCf,pCk,pXk,pXn,pXt,he,hpe,kpA,kpC⟩:=Qy.form x
 rw [he] at hp
 rw [hpe] at p1
 injection hp with hp
 subst hp
 generalize tpI ts x.vs x.pat=R1 at *
 generalize tpE ts x.vs x.pat=R2 at *
 generalize mapE Sch.enc ts=ets at *
 generalize mapE Vr.enc x.vs=evs at *
 generalize mapE Ex.enc x.rets=rs at *
 generalize mapE int x.key=es at *
 generalize ba x.nm=nm at *
 clear he hpe
 refine zt ?_;unhygienic intros
 refine fB T66 [.t 2,.t 3] ?_
 refine Aq ?_
 refine oPA p1 ?_
 refine Aq ?_
 exact fE []
theorem P_Returns2 (x:Qy) {cs:List AV} (hp:x.enc=.agg cs):PCall EL 67 [.iptr cs] (int (uI x.rets)):=by
 obtain ⟨pO,pA,pT,pV,pS,pN,pCo,pCa,pCv,pCf,pCk,pXk,pXn,pXt,he,hpe,kpA,kpC⟩:=Qy.form x
 rw [he] at hp
 injection hp with hp
 subst hp
 have hrl:(mapE Ex.enc x.rets).length=x.rets.length:=zr ..
 obtain ⟨R,hR⟩:∃ R,R=uI x.rets:=⟨_,rfl⟩
 rw [← hR]
 have h0:uI x.rets=if x.rets.length=0 then 15 else if 256<x.rets.length then 5 else 0:=by unfold uI;cases x.rets<;>simp
 rw [h0] at hR
 generalize x.rets.length=n at *
 generalize mapE Ex.enc x.rets=rs at *
 generalize mapE Vr.enc x.vs=evs at *
 generalize mapE int x.key=es at *
 generalize ba x.nm=nm at *
 clear he hpe h0
 refine zt ?_;unhygienic intros
 by_cases h1:n=0
 · have q1:iEq (lenA rs) 0=true:=by simp only [ee];rw [hrl];simpa using h1
   rw [if_pos h1] at hR
   rw [hR]
   refine fB T67 [.t 1] ?_
   have fz:=q1
   refine Cq ?_
   refine Aq ?_
   exact fV
 have q1:iEq (lenA rs) 0=false:=by simp only [ee];rw [hrl];simpa using h1
 rw [if_neg h1] at hR
 by_cases h2:256<n
 · have q2:iLt 256 (lenA rs)=true:=by simp only [ee];rw [hrl];simp;omega
   rw [if_pos h2] at hR
   rw [hR]
   refine fB T67 [.t 1] ?_
   have fz:=And.intro q1 q2
   refine Cq ?_
   refine Cr ?_
   refine Aq ?_
   exact fV
 have q2:iLt 256 (lenA rs)=false:=by simp only [ee];rw [hrl];simp;omega
 rw [if_neg h2] at hR
 rw [hR]
 refine fB T67 [.t 1] ?_
 have fz:=And.intro q1 q2
 refine Cq ?_
 refine Cr ?_
 refine Aq ?_
 exact fV
theorem P_Returns4 (x:Qy) {cs:List AV} (hp:x.enc=.agg cs) (hx:x.Ok):PCall EL 69 [.iptr cs] (.tup [int (x.pat.rtI x.rets),int (x.pat.rtE x.rets)]):=by
 have p1:=(P_Returns x.pat x.rets hx.pat hx.rets hx.rl).toL
 have kvs:=Vr.closedI x.vs
 have krs:=Ex.closedI x.rets
 have kks:=zq x.key
 obtain ⟨pO,pA,pT,pV,pS,pN,pCo,pCa,pCv,pCf,pCk,pXk,pXn,pXt,he,hpe,kpA,kpC⟩:=Qy.form x
 rw [he] at hp
 rw [hpe] at p1
 injection hp with hp
 subst hp
 generalize x.pat.rtI x.rets=R1 at *
 generalize x.pat.rtE x.rets=R2 at *
 generalize mapE Vr.enc x.vs=evs at *
 generalize mapE Ex.enc x.rets=rs at *
 generalize mapE int x.key=es at *
 generalize ba x.nm=nm at *
 clear he hpe
 refine zt ?_;unhygienic intros
 refine fB T69 [.t 1,.t 2] ?_
 refine Aq ?_
 refine oPA p1 ?_
 refine Aq ?_
 exact fE []
theorem C_Returns3 (ts:List Sch) (x:Qy) {cs:List AV} (hp:x.enc=.agg cs) (hts:x9 ts) (hx:x.Ok) :
 ACall EL 68 [.iptr cs,.iptr [.isl 2 (mapE Sch.enc ts)],.ptr 0 0] [.cells [.val (.slice none 0 0)]]
  (fun v H'=>v=int (zu (rkE ts x.vs) x.rets)∧∃ u,H'=[.cells [u]]∧(zu (rkE ts x.vs) x.rets=0→u=.isl 1 (mapE int (x.rets.map (rkK ts x.vs))))∧u.closed=true):=by
 have hk:∀ e∈x.rets,PCall EL 46 [.isl 2 (mapE Sch.enc ts),.isl 2 (mapE Vr.enc x.vs),e.enc] (.tup [int (rkK ts x.vs e),int (rkE ts x.vs e)]):=fun e he=>(P_Kind ts x.vs e hts hx.vs (hx.rets e he)).toL
 have kts:=Sch.closedI ts
 have kvs:=Vr.closedI x.vs
 have krs:=Ex.closedI x.rets
 have kks:=zq x.key
 have hrl:=hx.rl
 obtain ⟨pO,pA,pT,pV,pS,pN,pCo,pCa,pCv,pCf,pCk,pXk,pXn,pXt,he,hpe,kpA,kpC⟩:=Qy.form x
 rw [he] at hp
 injection hp with hp
 subst hp
 obtain ⟨R,hR⟩:∃ R,R=zu (rkE ts x.vs) x.rets:=⟨_,rfl⟩
 rw [← hR]
 generalize rkE ts x.vs=F at *
 generalize rkK ts x.vs=K at *
 generalize x.rets=rets at *
 have hrn:(mapE Ex.enc rets).length=rets.length:=zr ..
 have hnil:mapE int []=[]:=by rw [zn];rfl
 generalize mapE Sch.enc ts=ets at *
 generalize mapE Vr.enc x.vs=evs at *
 generalize hes:mapE Ex.enc rets=es at *
 generalize mapE int x.key=key at *
 generalize ba x.nm=nm at *
 clear he hpe hx hts
 have k1:AV.closedL [.isl 2 ets]=true:=by simp [AV.closedL,kts]
 have k2:AV.closedL [str nm,.isl 2 evs,.isl 1 key,int pO,.isl 14 pA,int pT,int pV,int pS,int pN,int pCo,.isl 8 pCa,int pCv,int pCf,int pCk,int pXk,int pXn,str pXt,.isl 8 es]=true:=by simp [AV.closedL,y6,kvs,krs,kks,kpA,kpC]
 have k3:(AV.iptr [.isl 2 ets]).closed=true:=by rw [zh];exact k1
 have k4:(AV.iptr [str nm,.isl 2 evs,.isl 1 key,int pO,.isl 14 pA,int pT,int pV,int pS,int pN,int pCo,.isl 8 pCa,int pCv,int pCf,int pCk,int pXk,int pXn,str pXt,.isl 8 es]).closed=true:=by rw [zh];exact k2
 refine zt ?_;unhygienic intros
 refine rB T68 [.t 3] ?_
 show Holds EL 31 1 _ _ _ _ _
 refine Aq ?_
 refine za (ι:=List Ex × List Ex × Int × Nat × List AV) (fun p=>([(11,int p.2.2.1),(10,int (lenA es)),(9,.isl 8 es),(2,.ptr 0 0),(1,.iptr [.isl 2 ets]),(0,.iptr [str nm,.isl 2 evs,.isl 1 key,int pO,.isl 14 pA,int pT,int pV,int pS,int pN,int pCo,.isl 8 pCa,int pCv,int pCf,int pCk,int pXk,int pXn,str pXt,.isl 8 es])],[.cells [.sl 1 1 0 p.2.2.2.1],.arr 1 p.2.2.2.2])) (fun p=>rets=p.1++p.2.1∧p.2.2.1=p.1.length∧p.2.2.2.1=p.2.2.2.2.length∧p.2.2.2.2=mapE int (p.1.map K)∧R=zu F p.2.1) (fun p=>p.2.1.length) ([],rets,0,0,[]) ⟨rfl,rfl,rfl,hnil.symm,hR⟩ ?_ ?_
 · exact (eN [.to 0] [some 0,none])
 rintro ⟨d,r,i,m,w⟩ ⟨g1,gi,gm,gw,gR⟩
 dsimp only at g1 gi gm gw gR ⊢
 have hcw:AV.closedL w=true:=by rw [gw];exact zM _
 cases r with
 | nil =>
  have L1:=zw g1
  try simp only [List.length] at L1
  have hc:iLt i (lenA es)=false:=xg e_iLt e_lenA (by omega)
  rw [List.append_nil] at g1
  rw [zu] at gR
  have hcwc:(AV.isl 1 w).closed=true:=by simpa [AV.closed] using hcw
  have hfin:.isl 1 w=AV.isl 1 (mapE int (rets.map K)):=by rw [gw,g1]
  rw [gR]
  have fz:=hc
  refine Cq ?_
  refine Aq ?_
  refine zl ?_
  refine Aq ?_
  refine yL (F2:=[(3,int 0)]) (H2:=[.cells [.isl 1 w]]) ?_ rfl ⟨rfl,_,rfl,fun _=>hfin,hcwc⟩
  exact (yM [.to 0,.isl 1 (w)] [some 0] ⟨rfl,trivial⟩ (by simp) (by simp) ⟨⟨by simp,rfl⟩,⟨_,rfl,(zx _ hcw).symm⟩,trivial⟩ ⟨zk (b:=0) rfl rfl rfl ⟨.of (yh rfl (by assumption)),trivial⟩,trivial⟩ ⟨.refl _,trivial⟩)
 | cons e r =>
  have L1:=zw g1
  try simp only [List.length] at L1
  have hc:iLt i (lenA es)=true:=xf e_iLt e_lenA (by omega)
  have hat:=z7 e_atA hes g1 gi
  have hi2:iAdd .i64 i 1=((d++[e]).length:Int):=by rw [List.length_append];exact yq e_iAdd gi (by omega)
  have hw2:catA (dropA w 0) (partA [int (K e)] 0 1)=mapE int ((d++[e]).map K):=by simp only [ee];rw [gw,zn,zn];simp
  have hcw2:AV.closedL (catA (dropA w 0) (partA [int (K e)] 0 1))=true:=by rw [hw2];exact zM _
  have hm2:addN m (lenN (partA [int (K e)] 0 1))=(catA (dropA w 0) (partA [int (K e)] 0 1)).length:=by simp only [ee];simp [gm]
  have pk:=hk e (by rw [g1];simp)
  have kec:=Ex.closed e
  rw [zu] at gR
  have hml:m=d.length:=by rw [gm,gw,zr];simp
  generalize K e=ke at *
  generalize F e=fe at *
  obtain ⟨eO,eA,eV,eF,eK,eXk,eXn,eXt,hxe⟩:=Ex.form e
  rw [hxe] at hat pk kec
  clear hk hR hxe
  have hmb:m<1048577:=by omega
  by_cases n1:fe=0
  · have q1:iNe fe 0=false:=by simp only [ee];simpa using n1
    rw [if_neg (by omega)] at gR
    have fz:=And.intro hc (And.intro hat q1)
    refine Cq ?_
    refine Cr ?_
    refine oPA pk ?_
    refine Cq ?_
    refine Aq ?_
    refine zp (d++[e],r,iAdd .i64 i 1,addN m (lenN (partA [int ke] 0 1)),catA (dropA w 0) (partA [int ke] 0 1)) ⟨by rw [g1];simp,hi2,hm2,hw2,gR⟩ (by simp) (eN [.to 0,.gone,.gone,.gone,.to 1] [some 0,some 4])
  have q1:iNe fe 0=true:=by simp only [ee];simpa using n1
  rw [if_pos n1] at gR
  rw [gR]
  have fz:=And.intro hc (And.intro hat q1)
  refine Cq ?_
  refine Cr ?_
  refine oPA pk ?_
  refine Cq ?_
  refine Aq ?_
  refine zi ?_
  refine Aq ?_
  refine yL (F2:=[(3,int fe)]) (H2:=[.cells [.undef]]) (eN [.to 0,.gone,.gone] [some 0]) rfl ⟨rfl,_,rfl,fun h=>absurd h n1,rfl⟩
theorem C_wholeA (g:FuncId) (q t:List AV) (u:AV) (hq:AV.closedL q=true) (ht:AV.closedL t=true) (hu:u.closed=true) :
 ACall EL 51 [.fn g [.iptr q,.iptr t,.ptr 0 0]] [.cells [u]] (fun v H'=>v=.agg [.fn 98 [.ptr 1 0]]∧H'=[.cells [u],.cells [.fn g [.iptr q,.iptr t,.ptr 0 0]],.cells [.fn 98 [.ptr 1 0]]]):=by
 have kq:(AV.iptr q).closed=true:=by rw [zh];exact hq
 have kt:(AV.iptr t).closed=true:=by rw [zh];exact ht
 have s0:∀ σ,AV.sub σ u=u:=fun σ=>zY _ _ _ (Nat.le_refl _) hu
 have s1:∀ σ,AV.sub σ (.iptr q)=.iptr q:=fun σ=>zY _ _ _ (Nat.le_refl _) kq
 have s2:∀ σ,AV.sub σ (.iptr t)=.iptr t:=fun σ=>zY _ _ _ (Nat.le_refl _) kt
 refine zt ?_;unhygienic intros
 refine rB T51 [.cell 2 1 true] ?_
 show Holds EL 5 1 _ _ _ _ _
 refine Aq ?_
 refine yL (F2:=[(2,.ptr 2 0)]) (H2:=[.cells [u],.cells [.fn g [.iptr q,.iptr t,.ptr 0 0]],.cells [.fn 98 [.ptr 1 0]]]) ?_ rfl ⟨rfl,rfl⟩
 exact (yM [.to 0,.to 1,.to 2] [some 0,some 1,some 2] ⟨rfl,trivial⟩ (by simp) (by simp) ⟨⟨by simp,rfl⟩,⟨by simp,rfl⟩,⟨by simp,rfl⟩,trivial⟩ ⟨.same 0 _ _ rfl rfl rfl (by show AObj.cells [AV.sub _ u]=_;rw [s0]),.same 1 _ _ rfl rfl rfl (by show AObj.cells [AV.fn g [AV.sub _ (.iptr q),AV.sub _ (.iptr t),_]]=_;rw [s1,s2];rfl),.same 2 _ _ rfl rfl rfl rfl,trivial⟩ ⟨.refl _,trivial⟩)
theorem C_whole1A {g:FuncId} {q t:List AV} {u:AV} {e:Int} {P:AV→Prop} (hq:AV.closedL q=true) (ht:AV.closedL t=true) (hu:u.closed=true) (hen:yz EL.P g)
 (h:ACall EL g [.iptr q,.iptr t,.ptr 0 0] [.cells [u]] (fun v H'=>v=int e∧∃ w,H'=[.cells [w]]∧P w)) (hP:∀ w,P w→w.closed=true) :
 ACall EL 98 [.ptr 1 0] [.cells [u],.cells [.fn g [.iptr q,.iptr t,.ptr 0 0]]] (fun v H'=>v=.tup [int 0,int e]∧∃ w,H'=[.cells [w],.cells [.fn g [.iptr q,.iptr t,.ptr 0 0]]]∧P w):=by
 have kq:(AV.iptr q).closed=true:=by rw [zh];exact hq
 have kt:(AV.iptr t).closed=true:=by rw [zh];exact ht
 have s0:∀ σ,AV.sub σ u=u:=fun σ=>zY _ _ _ (Nat.le_refl _) hu
 have s1:∀ σ,AV.sub σ (.iptr q)=.iptr q:=fun σ=>zY _ _ _ (Nat.le_refl _) kq
 have s2:∀ σ,AV.sub σ (.iptr t)=.iptr t:=fun σ=>zY _ _ _ (Nat.le_refl _) kt
 refine zt ?_;unhygienic intros
 refine rB T98 [.t 1,.t 2] ?_
 show Holds EL 5 2 _ _ _ _ _
 refine Aq ?_
 refine v8 [0] rfl rfl rfl hen h (by decide) (by simp) (by show _=[AObj.cells [AV.sub _ u]];rw [s0]) (by show _=[AV.sub _ (.iptr q),AV.sub _ (.iptr t),_];rw [s1,s2];rfl) ?_
 rintro v0 H' ⟨rfl,w,rfl,hw⟩ -
 have s3:∀ σ,AV.sub σ w=w:=fun σ=>zY _ _ _ (Nat.le_refl _) (hP w hw)
 have hm:yR [.cells [u],.cells [.fn g [.iptr q,.iptr t,.ptr 0 0]]] [0] [.cells [w]]=[.cells [w],.cells [.fn g [.iptr q,.iptr t,.ptr 0 0]]]:=by
  show [AObj.cells [AV.sub _ w],_]=_
  rw [s3];rfl
 rw [hm]
 refine Aq ?_
 refine yL (F2:=[(1,int 0),(2,int e)]) (H2:=[.cells [w],.cells [.fn g [.iptr q,.iptr t,.ptr 0 0]]]) ?_ rfl ⟨rfl,w,rfl,hw⟩
 exact (yM [.to 0,.to 1] [some 0,some 1] ⟨rfl,rfl,trivial⟩ (by simp) (by simp) ⟨⟨by simp,rfl⟩,⟨by simp,rfl⟩,trivial⟩ ⟨.same 0 _ _ rfl rfl rfl (by show AObj.cells [AV.sub _ w]=_;rw [s3]),.same 1 _ _ rfl rfl rfl (by show AObj.cells [AV.fn g [AV.sub _ (.iptr q),AV.sub _ (.iptr t),_]]=_;rw [s1,s2];rfl),trivial⟩ ⟨.refl _,.refl _,trivial⟩)
theorem C_first4 (a b d:Prt) {g:FuncId} {q t:List AV} {u:AV} {e E:Int} {P:AV→Prop} (hq:AV.closedL q=true) (ht:AV.closedL t=true) (hu:u.closed=true) (hen:yz EL.P 98)
 (ka:AV.closedL a.cs=true) (kb:AV.closedL b.cs=true) (kd:AV.closedL d.cs=true)
 (ha:PCall EL a.g a.cs (.tup [int a.i,int a.e])) (hb:a.e=0→PCall EL b.g b.cs (.tup [int b.i,int b.e]))
 (hc:ACall EL 98 [.ptr 1 0] [.cells [u],.cells [.fn g [.iptr q,.iptr t,.ptr 0 0]]] (fun v H'=>v=.tup [int 0,int e]∧∃ w,H'=[.cells [w],.cells [.fn g [.iptr q,.iptr t,.ptr 0 0]]]∧(e=0→P w)∧w.closed=true))
 (hd:PCall EL d.g d.cs (.tup [int d.i,int d.e])) (hE:E=if a.e≠0 then a.e else if b.e≠0 then b.e else if e≠0 then e else d.e) :
 ACall EL 49 [.sl 2 1 0 4] [.cells [u],.cells [.fn g [.iptr q,.iptr t,.ptr 0 0]],.arr 1 [.agg [.fn a.g a.cs],.agg [.fn b.g b.cs],.agg [.fn 98 [.ptr 1 0]],.agg [.fn d.g d.cs]]]
  (fun v H'=>(∃ I,v=.tup [int I,int E])∧∃ w,H'=[.cells [w],.cells [.fn g [.iptr q,.iptr t,.ptr 0 0]],.arr 1 [.agg [.fn a.g a.cs],.agg [.fn b.g b.cs],.agg [.fn 98 [.ptr 1 0]],.agg [.fn d.g d.cs]]]∧(E=0→P w)∧w.closed=true):=by
 obtain ⟨ag,ac,ai,ae⟩:=a
 obtain ⟨bg,bc,bi,be⟩:=b
 obtain ⟨dg,dc,di,de⟩:=d
 dsimp only at *
 have kq:(AV.iptr q).closed=true:=by rw [zh];exact hq
 have kt:(AV.iptr t).closed=true:=by rw [zh];exact ht
 have s1:∀ σ,AV.sub σ (.iptr q)=.iptr q:=fun σ=>zY _ _ _ (Nat.le_refl _) kq
 have s2:∀ σ,AV.sub σ (.iptr t)=.iptr t:=fun σ=>zY _ _ _ (Nat.le_refl _) kt
 have ka2:(AV.fn ag ac).closed=true:=by rw [zE];exact ka
 have kb2:(AV.fn bg bc).closed=true:=by rw [zE];exact kb
 have kd2:(AV.fn dg dc).closed=true:=by rw [zE];exact kd
 have s3:∀ σ,AV.sub σ (.fn ag ac)=.fn ag ac:=fun σ=>zY _ _ _ (Nat.le_refl _) ka2
 have s4:∀ σ,AV.sub σ (.fn bg bc)=.fn bg bc:=fun σ=>zY _ _ _ (Nat.le_refl _) kb2
 have s5:∀ σ,AV.sub σ (.fn dg dc)=.fn dg dc:=fun σ=>zY _ _ _ (Nat.le_refl _) kd2
 have ho1:∀ σ,AObj.sub σ (.cells [.fn g [.iptr q,.iptr t,.ptr 0 0]])=.cells [.fn g [.iptr q,.iptr t,AV.sub σ (.ptr 0 0)]]:=fun σ=>by show AObj.cells [AV.fn g [AV.sub _ (.iptr q),AV.sub _ (.iptr t),_]]=_;rw [s1,s2]
 have ho2:∀ σ,AObj.sub σ (.arr 1 [.agg [.fn ag ac],.agg [.fn bg bc],.agg [.fn 98 [.ptr 1 0]],.agg [.fn dg dc]])=.arr 1 [.agg [.fn ag ac],.agg [.fn bg bc],.agg [.fn 98 [AV.sub σ (.ptr 1 0)]],.agg [.fn dg dc]]:=fun σ=>by show AObj.arr 1 [AV.agg [AV.sub _ (.fn ag ac)],AV.agg [AV.sub _ (.fn bg bc)],_,AV.agg [AV.sub _ (.fn dg dc)]]=_;rw [s3,s4,s5];rfl
 have k0:∀ (w:AV) (F F':AFr),(∀ σ,AV.sub σ w=w)→FWk 3 (ofL [.to 0,.to 1,.to 2]) F F'→Ent EL 25 3 F [.cells [w],.cells [.fn g [.iptr q,.iptr t,.ptr 0 0]],.arr 1 [.agg [.fn ag ac],.agg [.fn bg bc],.agg [.fn 98 [.ptr 1 0]],.agg [.fn dg dc]]] F' [.cells [w],.cells [.fn g [.iptr q,.iptr t,.ptr 0 0]],.arr 1 [.agg [.fn ag ac],.agg [.fn bg bc],.agg [.fn 98 [.ptr 1 0]],.agg [.fn dg dc]]]:=fun w F F' s0 hF =>
  yM [.to 0,.to 1,.to 2] [some 0,some 1,some 2] ⟨rfl,rfl,rfl,trivial⟩ (by simp) (by simp) ⟨⟨by simp,rfl⟩,⟨by simp,rfl⟩,⟨by simp,rfl⟩,trivial⟩ ⟨.same 0 _ _ rfl rfl rfl (by show AObj.cells [AV.sub _ w]=_;rw [s0]),.same 1 _ _ rfl rfl rfl (ho1 _),.same 2 _ _ rfl rfl rfl (ho2 _),trivial⟩ hF
 have k1:∀ (w:AV) (x:AObj) (F F':AFr),(∀ σ,AV.sub σ w=w)→FWk 3 (ofL [.to 0,.to 1,.to 2,.gone]) F F'→Ent EL 25 3 F [.cells [w],.cells [.fn g [.iptr q,.iptr t,.ptr 0 0]],.arr 1 [.agg [.fn ag ac],.agg [.fn bg bc],.agg [.fn 98 [.ptr 1 0]],.agg [.fn dg dc]],x] F' [.cells [w],.cells [.fn g [.iptr q,.iptr t,.ptr 0 0]],.arr 1 [.agg [.fn ag ac],.agg [.fn bg bc],.agg [.fn 98 [.ptr 1 0]],.agg [.fn dg dc]]]:=fun w x F F' s0 hF =>
  yM [.to 0,.to 1,.to 2,.gone] [some 0,some 1,some 2] ⟨rfl,rfl,rfl,trivial⟩ (by simp) (by simp) ⟨⟨by simp,rfl⟩,⟨by simp,rfl⟩,⟨by simp,rfl⟩,trivial,trivial⟩ ⟨.same 0 _ _ rfl rfl rfl (by show AObj.cells [AV.sub _ w]=_;rw [s0]),.same 1 _ _ rfl rfl rfl (ho1 _),.same 2 _ _ rfl rfl rfl (ho2 _),trivial⟩ hF
 refine zt ?_;unhygienic intros
 refine rB T49 [.t 2,.t 3] ?_
 show Holds EL 25 3 _ _ _ _ _
 have h4:iOf 4=4:=by simp only [ee];rfl
 have fz:=h4
 refine goC 60 ?_
 refine za (ι:=Int × AV) (fun p=>([(10,int p.1),(9,int 4),(8,.sl 2 1 0 4)],[.cells [p.2],.cells [.fn g [.iptr q,.iptr t,.ptr 0 0]],.arr 1 [.agg [.fn ag ac],.agg [.fn bg bc],.agg [.fn 98 [.ptr 1 0]],.agg [.fn dg dc]]])) (fun p=>p.2.closed=true∧((p.1=0∧p.2=u)∨(p.1=1∧p.2=u∧ae=0)∨(p.1=2∧p.2=u∧ae=0∧be=0)∨(p.1=3∧P p.2∧ae=0∧be=0∧e=0)∨(p.1=4∧P p.2∧ae=0∧be=0∧e=0∧de=0))) (fun p=>(4 - p.1).toNat) (0,u) ⟨hu,.inl ⟨rfl,rfl⟩⟩ ?_ ?_
 · have s0:∀ σ,AV.sub σ u=u:=fun σ=>zY _ _ _ (Nat.le_refl _) hu
   exact (k0 _ _ _ s0 ⟨.refl _,.refl _,.refl _,trivial⟩)
 rintro ⟨k,w⟩ ⟨gw,gk⟩
 dsimp only at gw gk ⊢
 have s0:∀ σ,AV.sub σ w=w:=fun σ=>zY _ _ _ (Nat.le_refl _) gw
 rcases gk with ⟨rfl,rfl⟩ | ⟨rfl,rfl,g1⟩ | ⟨rfl,rfl,g1,g2⟩ | ⟨rfl,gp,g1,g2,g3⟩ | ⟨rfl,gp,g1,g2,g3,g4⟩
 · have c0:iLt 0 4=true:=by simp only [ee];rfl
   have c1:iAdd .i64 0 1=1:=by simp only [ee];rfl
   have hat:atN [.agg [.fn ag ac],.agg [.fn bg bc],.agg [.fn 98 [.ptr 1 0]],.agg [.fn dg dc]] (idxN 0 0)=.agg [.fn ag ac]:=by simp only [ee];rfl
   by_cases n0:ae=0
   · have q1:iNe ae 0=false:=by simp only [ee];simpa using n0
     have fz:=And.intro c0 (And.intro c1 (And.intro hat q1))
     refine Cq ?_
     refine Cr ?_
     refine yI (args:=ac) rfl rfl rfl rfl ha (by simp [ka]) ?_
     refine Cq ?_
     have fz:=c1
     refine goC 60 ?_
     refine zp (1,w) ⟨gw,.inr (.inl ⟨rfl,rfl,n0⟩)⟩ (by simp) (k1 _ _ _ _ s0 ⟨.refl _,.refl _,.refl _,trivial⟩)
   have q1:iNe ae 0=true:=by simp only [ee];simpa using n0
   have hE:E=ae:=by rw [hE];simp [n0]
   rw [hE]
   have fz:=And.intro c0 (And.intro c1 (And.intro hat q1))
   refine Cq ?_
   refine Cr ?_
   refine yI (args:=ac) rfl rfl rfl rfl ha (by simp [ka]) ?_
   refine Cq ?_
   refine Aq ?_
   refine zi ?_
   refine Aq ?_
   refine yL (F2:=[(2,int ai),(3,int ae)]) (H2:=[.cells [w],.cells [.fn g [.iptr q,.iptr t,.ptr 0 0]],.arr 1 [.agg [.fn ag ac],.agg [.fn bg bc],.agg [.fn 98 [.ptr 1 0]],.agg [.fn dg dc]]]) ?_ rfl ⟨⟨_,rfl⟩,w,rfl,fun h=>absurd h n0,gw⟩
   exact (k1 _ _ _ _ s0 ⟨.refl _,.refl _,trivial⟩)
 · have c0:iLt 1 4=true:=by simp only [ee];rfl
   have c1:iAdd .i64 1 1=2:=by simp only [ee];rfl
   have hat:atN [.agg [.fn ag ac],.agg [.fn bg bc],.agg [.fn 98 [.ptr 1 0]],.agg [.fn dg dc]] (idxN 0 1)=.agg [.fn bg bc]:=by simp only [ee];rfl
   by_cases n1:be=0
   · have q1:iNe be 0=false:=by simp only [ee];simpa using n1
     have fz:=And.intro c0 (And.intro c1 (And.intro hat q1))
     refine Cq ?_
     refine Cr ?_
     refine yI (args:=bc) rfl rfl rfl rfl (hb g1) (by simp [kb]) ?_
     refine Cq ?_
     have fz:=c1
     refine goC 60 ?_
     refine zp (2,w) ⟨gw,.inr (.inr (.inl ⟨rfl,rfl,g1,n1⟩))⟩ (by simp) (k1 _ _ _ _ s0 ⟨.refl _,.refl _,.refl _,trivial⟩)
   have q1:iNe be 0=true:=by simp only [ee];simpa using n1
   have hE:E=be:=by rw [hE];simp [g1,n1]
   rw [hE]
   have fz:=And.intro c0 (And.intro c1 (And.intro hat q1))
   refine Cq ?_
   refine Cr ?_
   refine yI (args:=bc) rfl rfl rfl rfl (hb g1) (by simp [kb]) ?_
   refine Cq ?_
   refine Aq ?_
   refine zi ?_
   refine Aq ?_
   refine yL (F2:=[(2,int bi),(3,int be)]) (H2:=[.cells [w],.cells [.fn g [.iptr q,.iptr t,.ptr 0 0]],.arr 1 [.agg [.fn ag ac],.agg [.fn bg bc],.agg [.fn 98 [.ptr 1 0]],.agg [.fn dg dc]]]) ?_ rfl ⟨⟨_,rfl⟩,w,rfl,fun h=>absurd h n1,gw⟩
   exact (k1 _ _ _ _ s0 ⟨.refl _,.refl _,trivial⟩)
 · have c0:iLt 2 4=true:=by simp only [ee];rfl
   have c1:iAdd .i64 2 1=3:=by simp only [ee];rfl
   have hat:atN [.agg [.fn ag ac],.agg [.fn bg bc],.agg [.fn 98 [.ptr 1 0]],.agg [.fn dg dc]] (idxN 0 2)=.agg [.fn 98 [.ptr 1 0]]:=by simp only [ee];rfl
   have fz:=And.intro c0 (And.intro c1 hat)
   refine Cq ?_
   refine Cr ?_
   refine v8 [0,1] rfl rfl rfl hen hc (by decide) (by simp) (by show _=[AObj.cells [AV.sub _ w],AObj.sub _ (.cells [.fn g [.iptr q,.iptr t,.ptr 0 0]])];rw [s0,ho1];rfl) rfl ?_
   rintro v0 H' ⟨rfl,w2,rfl,hw,gw2⟩ -
   have s6:∀ σ,AV.sub σ w2=w2:=fun σ=>zY _ _ _ (Nat.le_refl _) gw2
   have hm:yR [.cells [w],.cells [.fn g [.iptr q,.iptr t,.ptr 0 0]],.arr 1 [.agg [.fn ag ac],.agg [.fn bg bc],.agg [.fn 98 [.ptr 1 0]],.agg [.fn dg dc]],.cells [.fn 98 [.ptr 1 0]]] [0,1] [.cells [w2],.cells [.fn g [.iptr q,.iptr t,.ptr 0 0]]]=[.cells [w2],.cells [.fn g [.iptr q,.iptr t,.ptr 0 0]],.arr 1 [.agg [.fn ag ac],.agg [.fn bg bc],.agg [.fn 98 [.ptr 1 0]],.agg [.fn dg dc]],.cells [.fn 98 [.ptr 1 0]]]:=by
    show [AObj.cells [AV.sub _ w2],AObj.sub _ (.cells [.fn g [.iptr q,.iptr t,.ptr 0 0]]),_,_]=_
    rw [s6,ho1];rfl
   rw [hm]
   by_cases n2:e=0
   · have q1:iNe e 0=false:=by simp only [ee];simpa using n2
     have fz:=And.intro c0 (And.intro c1 (And.intro hat q1))
     refine Cq ?_
     have fz:=c1
     refine goC 60 ?_
     refine zp (3,w2) ⟨gw2,.inr (.inr (.inr (.inl ⟨rfl,hw n2,g1,g2,n2⟩)))⟩ (by simp) (k1 _ _ _ _ s6 ⟨.refl _,.refl _,.refl _,trivial⟩)
   have q1:iNe e 0=true:=by simp only [ee];simpa using n2
   have hE:E=e:=by rw [hE];simp [g1,g2,n2]
   rw [hE]
   have fz:=And.intro c0 (And.intro c1 (And.intro hat q1))
   refine Cq ?_
   refine Aq ?_
   refine zi ?_
   refine Aq ?_
   refine yL (F2:=[(2,int 0),(3,int e)]) (H2:=[.cells [w2],.cells [.fn g [.iptr q,.iptr t,.ptr 0 0]],.arr 1 [.agg [.fn ag ac],.agg [.fn bg bc],.agg [.fn 98 [.ptr 1 0]],.agg [.fn dg dc]]]) ?_ rfl ⟨⟨_,rfl⟩,w2,rfl,fun h=>absurd h n2,gw2⟩
   exact (k1 _ _ _ _ s6 ⟨.refl _,.refl _,trivial⟩)
 · have c0:iLt 3 4=true:=by simp only [ee];rfl
   have c1:iAdd .i64 3 1=4:=by simp only [ee];rfl
   have hat:atN [.agg [.fn ag ac],.agg [.fn bg bc],.agg [.fn 98 [.ptr 1 0]],.agg [.fn dg dc]] (idxN 0 3)=.agg [.fn dg dc]:=by simp only [ee];rfl
   by_cases n3:de=0
   · have q1:iNe de 0=false:=by simp only [ee];simpa using n3
     have fz:=And.intro c0 (And.intro c1 (And.intro hat q1))
     refine Cq ?_
     refine Cr ?_
     refine yI (args:=dc) rfl rfl rfl rfl hd (by simp [kd]) ?_
     refine Cq ?_
     have fz:=c1
     refine goC 60 ?_
     refine zp (4,w) ⟨gw,.inr (.inr (.inr (.inr ⟨rfl,gp,g1,g2,g3,n3⟩)))⟩ (by simp) (k1 _ _ _ _ s0 ⟨.refl _,.refl _,.refl _,trivial⟩)
   have q1:iNe de 0=true:=by simp only [ee];simpa using n3
   have hE:E=de:=by rw [hE];simp [g1,g2,g3]
   rw [hE]
   have fz:=And.intro c0 (And.intro c1 (And.intro hat q1))
   refine Cq ?_
   refine Cr ?_
   refine yI (args:=dc) rfl rfl rfl rfl hd (by simp [kd]) ?_
   refine Cq ?_
   refine Aq ?_
   refine zi ?_
   refine Aq ?_
   refine yL (F2:=[(2,int di),(3,int de)]) (H2:=[.cells [w],.cells [.fn g [.iptr q,.iptr t,.ptr 0 0]],.arr 1 [.agg [.fn ag ac],.agg [.fn bg bc],.agg [.fn 98 [.ptr 1 0]],.agg [.fn dg dc]]]) ?_ rfl ⟨⟨_,rfl⟩,w,rfl,fun h=>absurd h n3,gw⟩
   exact (k1 _ _ _ _ s0 ⟨.refl _,.refl _,trivial⟩)
 have c0:iLt 4 4=false:=by simp only [ee];rfl
 have c1:iAdd .i64 4 1=5:=by simp only [ee];rfl
 have hE:E=0:=by rw [hE];simp [g1,g2,g3,g4]
 rw [hE]
 have fz:=And.intro c0 c1
 refine Cq ?_
 refine Aq ?_
 refine zl ?_
 refine Aq ?_
 refine yL (F2:=[(2,int 0),(3,int 0)]) (H2:=[.cells [w],.cells [.fn g [.iptr q,.iptr t,.ptr 0 0]],.arr 1 [.agg [.fn ag ac],.agg [.fn bg bc],.agg [.fn 98 [.ptr 1 0]],.agg [.fn dg dc]]]) ?_ rfl ⟨⟨_,rfl⟩,w,rfl,fun _=>gp,gw⟩
 exact (k0 _ _ _ s0 ⟨.refl _,.refl _,trivial⟩)
theorem P_tcReturns (ts:List Sch) (x:Qy) (hts:x9 ts) (hx:x.Ok) :
 PCall EL 21 [.isl 2 (mapE Sch.enc ts),x.enc] (.tup [.isl 1 (mapE int (vH ts x)),int (wQ ts x)]):=by
 obtain ⟨cs,he⟩:∃ cs,x.enc=.agg cs:=⟨_,Qy.enc_eq x⟩
 have kq:AV.closedL cs=true:=by have:=Qy.closed x;rw [he] at this;exact this
 have kone:cs.all AV.one=true:=Qy.one he
 have kts:=Sch.closedI ts
 have kt:AV.closedL [.isl 2 (mapE Sch.enc ts)]=true:=by simp [AV.closedL,kts]
 have ka:AV.closedL [.iptr [.isl 2 (mapE Sch.enc ts)],.iptr cs]=true:=by simp [AV.closedL,zh,kts,kq]
 have kd:AV.closedL [.iptr cs]=true:=by simp [AV.closedL,zh,kq]
 have kb:AV.closedL [.iptr [.fn 67 [.iptr cs]]]=true:=by simp [AV.closedL,zE,zh,kq]
 have ku:(AV.val (.slice none 0 0)).closed=true:=rfl
 have w2:=x4 67 _ kd
 have w3:=C_wholeA 68 _ _ _ kq kt ku
 have c1:=P_Returns1 ts x he hts hx
 have c2:=y9 kd (P_Returns2 x he)
 have c3:=C_whole1A kq kt ku enters_typecheck_Returns_3 (C_Returns3 ts x he hts hx) (fun w h=>h.2)
 have c4:=P_Returns4 x he hx
 obtain ⟨E,hE⟩:∃ E,E=wQ ts x:=⟨_,rfl⟩
 have cf:=C_first4 ⟨66,_,_,_⟩ ⟨98,_,0,_⟩ ⟨69,_,_,_⟩ kq kt ku enters_typecheck_whole_1 ka kb kd c1 (fun _=>c2) c3 c4 (E:=E) hE
 have hK:E=0→mapE int (x.rets.map (rkK ts x.vs))=mapE int (vH ts x):=fun h=>by rw [vH,← hE,if_neg (by simpa using h)]
 have hK2:E≠0→mapE int (vH ts x)=[]:=fun h=>by rw [vH,← hE,if_pos h,zn];rfl
 rw [← hE,he]
 dsimp only at cf
 generalize mapE int (vH ts x)=RK at *
 generalize mapE int (x.rets.map (rkK ts x.vs))=ks at *
 clear c1 c2 c3 c4 hE he hx hts
 generalize mapE Sch.enc ts=ets at *
 have f1:(AV.fn 66 [.iptr [.isl 2 ets],.iptr cs]).closed=true:=by rw [zE];exact ka
 refine zt ?_;unhygienic intros
 refine fB T21 [.t 4,.t 5] ?_
 refine go rfl hX 0 (by conv=>lhs;cbv) ?_ ?_
 · simp only [Cd.ok];(first | exact trivial | exact kone | (and_intros<;>first | rfl | exact kone))
 refine yD (F':=[(12,.fn 67 [.iptr cs]),(11,.agg [.fn 66 [.iptr [.isl 2 ets],.iptr cs]]),(6,.ptr 0 0),(3,.iptr cs),(2,.iptr [.isl 2 ets])]) (H':=[.cells [.val (.slice none 0 0)]]) ?_ ?_
 · exact (yj [.icells ([AV.isl 2 ets]),.icells (cs),.to 0] [some 2] ⟨⟨_,rfl,(zx _ kt).symm⟩,⟨_,rfl,(zx _ kq).symm⟩,⟨by simp,rfl⟩,trivial⟩ ⟨zk (b:=2) rfl rfl rfl ⟨.refl _,trivial⟩,trivial⟩ ⟨.refl _,.refl _,.refl _,.refl _,.refl _,trivial⟩)
 have kfq:(AV.fn 67 [.iptr cs]).closed=true:=by rw [zE];exact kd
 have kdq:(AV.fn 69 [.iptr cs]).closed=true:=by rw [zE];exact kd
 have kbq:(AV.fn 98 [.iptr [.fn 67 [.iptr cs]]]).closed=true:=by rw [zE];exact kb
 have kqp:(AV.iptr cs).closed=true:=by rw [zh];exact kq
 have ktp:(AV.iptr [.isl 2 ets]).closed=true:=by rw [zh];exact kt
 have s1:∀ σ,AV.sub σ (.iptr cs)=.iptr cs:=fun σ=>zY _ _ _ (Nat.le_refl _) kqp
 have s2:∀ σ,AV.sub σ (.iptr [.isl 2 ets])=.iptr [.isl 2 ets]:=fun σ=>zY _ _ _ (Nat.le_refl _) ktp
 have sA:∀ σ,AV.sub σ (.fn 66 [.iptr [.isl 2 ets],.iptr cs])=.fn 66 [.iptr [.isl 2 ets],.iptr cs]:=fun σ=>zY _ _ _ (Nat.le_refl _) f1
 have sB:∀ σ,AV.sub σ (.fn 98 [.iptr [.fn 67 [.iptr cs]]])=.fn 98 [.iptr [.fn 67 [.iptr cs]]]:=fun σ=>zY _ _ _ (Nat.le_refl _) kbq
 have sD:∀ σ,AV.sub σ (.fn 69 [.iptr cs])=.fn 69 [.iptr cs]:=fun σ=>zY _ _ _ (Nat.le_refl _) kdq
 have oF:∀ σ,AObj.sub σ (.cells [.fn 68 [.iptr cs,.iptr [.isl 2 ets],.ptr 0 0]])=.cells [.fn 68 [.iptr cs,.iptr [.isl 2 ets],AV.sub σ (.ptr 0 0)]]:=fun σ=>by show AObj.cells [AV.fn _ [AV.sub _ (.iptr cs),AV.sub _ (.iptr [.isl 2 ets]),_]]=_;rw [s1,s2]
 have oA:∀ σ,AObj.sub σ (.arr 1 [.agg [.fn 66 [.iptr [.isl 2 ets],.iptr cs]],.agg [.fn 98 [.iptr [.fn 67 [.iptr cs]]]],.agg [.fn 98 [.ptr 1 0]],.agg [.fn 69 [.iptr cs]]])=.arr 1 [.agg [.fn 66 [.iptr [.isl 2 ets],.iptr cs]],.agg [.fn 98 [.iptr [.fn 67 [.iptr cs]]]],.agg [.fn 98 [AV.sub σ (.ptr 1 0)]],.agg [.fn 69 [.iptr cs]]]:=fun σ=>by show AObj.arr 1 [AV.agg [AV.sub _ (.fn 66 [.iptr [.isl 2 ets],.iptr cs])],AV.agg [AV.sub _ (.fn 98 [.iptr [.fn 67 [.iptr cs]]])],_,AV.agg [AV.sub _ (.fn 69 [.iptr cs])]]=_;rw [sA,sB,sD];rfl
 refine v6 (args:=[.fn 67 [.iptr cs]]) rfl rfl rfl w2 (by rw [AV.closedL,kfq];rfl) ?_
 refine Aq ?_
 refine wi [0] rfl rfl enters_typecheck_whole w3 (by decide) (by simp) rfl (by show _=[AV.fn _ [AV.sub _ (.iptr cs),AV.sub _ (.iptr [.isl 2 ets]),_]];rw [s1,s2];rfl) ?_
 rintro v0 H' ⟨rfl,rfl⟩ -
 have hm:yR [.cells [.val (.slice none 0 0)]] [0] [.cells [.val (.slice none 0 0)],.cells [.fn 68 [.iptr cs,.iptr [.isl 2 ets],.ptr 0 0]],.cells [.fn 98 [.ptr 1 0]]]=[.cells [.val (.slice none 0 0)],.cells [.fn 68 [.iptr cs,.iptr [.isl 2 ets],.ptr 0 0]],.cells [.fn 98 [.ptr 1 0]]]:=by
  show [_,AObj.sub _ (.cells [.fn 68 [.iptr cs,.iptr [.isl 2 ets],.ptr 0 0]]),_]=_
  rw [oF];rfl
 rw [hm]
 refine Aq ?_
 refine wi [0,1,3] rfl rfl enters_typecheck_first cf (by decide) (by simp) (by show _=[_,AObj.sub _ (.cells [.fn 68 [.iptr cs,.iptr [.isl 2 ets],.ptr 0 0]]),AObj.sub _ (.arr 1 [.agg [.fn 66 [.iptr [.isl 2 ets],.iptr cs]],.agg [.fn 98 [.iptr [.fn 67 [.iptr cs]]]],.agg [.fn 98 [.ptr 1 0]],.agg [.fn 69 [.iptr cs]]])];rw [oF,oA];rfl) rfl ?_
 rintro v0 H' ⟨⟨I,rfl⟩,w,rfl,hw,hwc⟩ -
 have sw:∀ σ,AV.sub σ w=w:=fun σ=>zY _ _ _ (Nat.le_refl _) hwc
 have hm2:yR [.cells [.val (.slice none 0 0)],.cells [.fn 68 [.iptr cs,.iptr [.isl 2 ets],.ptr 0 0]],.cells [.fn 98 [.ptr 1 0]],.arr 1 [.agg [.fn 66 [.iptr [.isl 2 ets],.iptr cs]],.agg [.fn 98 [.iptr [.fn 67 [.iptr cs]]]],.agg [.fn 98 [.ptr 1 0]],.agg [.fn 69 [.iptr cs]]]] [0,1,3] [.cells [w],.cells [.fn 68 [.iptr cs,.iptr [.isl 2 ets],.ptr 0 0]],.arr 1 [.agg [.fn 66 [.iptr [.isl 2 ets],.iptr cs]],.agg [.fn 98 [.iptr [.fn 67 [.iptr cs]]]],.agg [.fn 98 [.ptr 1 0]],.agg [.fn 69 [.iptr cs]]]]=[.cells [w],.cells [.fn 68 [.iptr cs,.iptr [.isl 2 ets],.ptr 0 0]],.cells [.fn 98 [.ptr 1 0]],.arr 1 [.agg [.fn 66 [.iptr [.isl 2 ets],.iptr cs]],.agg [.fn 98 [.iptr [.fn 67 [.iptr cs]]]],.agg [.fn 98 [.ptr 1 0]],.agg [.fn 69 [.iptr cs]]]]:=by
  show [AObj.cells [AV.sub _ w],AObj.sub _ (.cells [.fn 68 [.iptr cs,.iptr [.isl 2 ets],.ptr 0 0]]),_,AObj.sub _ (.arr 1 [.agg [.fn 66 [.iptr [.isl 2 ets],.iptr cs]],.agg [.fn 98 [.iptr [.fn 67 [.iptr cs]]]],.agg [.fn 98 [.ptr 1 0]],.agg [.fn 69 [.iptr cs]]])]=_
  rw [sw,oF,oA];rfl
 rw [hm2]
 by_cases n1:E=0
 · have q1:iNe E 0=false:=by simp only [ee];simpa using n1
   have kRK:(AV.isl 1 RK).closed=true:=by rw [hw n1,hK n1] at hwc;exact hwc
   rw [hw n1,hK n1]
   clear cf hK hK2 hw
   subst n1
   have fz:=q1
   refine Cq ?_
   refine Aq ?_
   exact fE [.gone,.gone,.gone,.gone]
 have q1:iNe E 0=true:=by simp only [ee];simpa using n1
 rw [hK2 n1]
 have fz:=q1
 refine Cq ?_
 refine Aq ?_
 exact fE [.gone,.gone,.gone,.gone]
def tsX : List Sch:=[⟨[65],[⟨[120],0⟩,⟨[115],2⟩]⟩,⟨[66],[⟨[115],2⟩]⟩]
def evX (t v:Int):Pat:=.mk 0 [] t v 0 0 yesE
def patX : Pat:=.mk 1 [evX 0 0,evX 1 1] 0 0 0 0 Ex0
def vsX : List Vr:=[⟨[97],0⟩,⟨[98],1⟩]
def vsY : List Vr:=[⟨[98],1⟩,⟨[97],0⟩]
def zB (f:Int):Ex:=.mk 1 [] 0 f 0 Vl0
def qX (key:List Int) (rets:List Ex):Qy:=⟨[113],vsX,key,patX,rets⟩
theorem um : zU tsX=0:=by decide
theorem vsX_E : xR tsX vsX=0:=by decide
theorem vsY_E : xR tsX vsY=0:=by decide
theorem tT : xU tsX vsX=0:=by rw [xU,if_neg (by simp [um]),vsX_E]
theorem dclY : xU tsX vsY=0:=by rw [xU,if_neg (by simp [um]),vsY_E]
theorem nmX : nmE [113]=0:=by decide
theorem keyX1 : wH tsX vsX [1,0]=0:=by decide
theorem keyX2 : wH tsX vsX [0,0]=9:=by decide
theorem keyX3 : wH tsX vsX [1,-1]=16:=by decide
theorem xi : patX.nodes=[patX,evX 0 0,evX 1 1]:=by simp [patX,evX,Pat.nodes,Pat.nodesL]
theorem evX_bound (t v:Int):(evX t v).bound=[v]:=bound_of (by simp [evX,Pat.nodes,Pat.nodesL,wa,Pat.op,Pat.var]) (by simp)
theorem evX_ones (t v:Int):(evX t v).ones=[v]:=by simp [evX,Pat.ones,uV]
theorem patX_bound : patX.bound=[0,1]:=bound_of (by rw [xi];simp [wa,patX,evX,Pat.op,Pat.var]) (by simp)
theorem patX_ones : patX.ones=[0,1]:=by
 simp only [patX,Pat.ones,Pat.onesL]
 simp only [uV,evX_ones]
 rw [uni_1,uni_2 (by omega)];rfl
theorem evX_node (t v:Int) (h:0≤t∧t≤15∧0≤v∧v≤15):(evX t v).nodeE=0:=by
 simp [Pat.nodeE,evX,Pat.op,Pat.args,Pat.ty,Pat.var,Pat.scope,Pat.span,Pat.cond,wd,vc,zJ,xP,yP,xx,yes15_chk]
 omega
theorem ua : patX.chk=0:=by
 have h0:∀ q∈patX.nodes,q.nodeE=0:=by
  rw [xi]
  intro q hq
  simp only [List.mem_cons,List.not_mem_nil,or_false] at hq
  rcases hq with rfl | rfl | rfl
  · simp [Pat.nodeE,patX,Pat.op,Pat.args,Pat.ty,Pat.var,Pat.scope,Pat.span,Pat.cond,wd,vc,zJ,xP,yP,xx]
  · exact evX_node _ _ (by omega)
  exact evX_node _ _ (by omega)
 have h1:patX.cnt=3:=by rw [← Pat.nodes_len,xi];rfl
 have h2:patX.dep=2:=by simp [patX,evX,Pat.dep,Pat.depL]
 have h3:patX.chkR=0:=by
  rw [Pat.chkR,h1,h2,if_neg (by decide),if_neg (by decide)]
  exact xc h0
 have h4:patX.wholeE=0:=by
  rw [Pat.wholeE,h3,xi]
  simp [zu,patX,evX,Pat.op]
 rw [Pat.chk,h4,xi]
 simp [yg,w6,patX,evX,Pat.op,Pat.var,Pat.scope,zJ,yP]
theorem patX_sm : patX.Sm:=by
 refine (Pat.Sm_iff _).2 ⟨by rw [xi];simp,?_⟩
 rw [xi]
 intro q hq
 have h0:Ex0.Sm:=by simp [Ex.Sm,Ex0,Ex.cnt,Ex.cntL]
 simp only [List.mem_cons,List.not_mem_nil,or_false] at hq
 rcases hq with rfl | rfl | rfl
 · exact h0
 · exact yes15_sm
 exact yes15_sm
theorem patX_nv : patX.nVars=2:=by
 rw [Pat.nVars,if_pos ua,xi]
 simp [yg,w6,patX,evX,Pat.op,Pat.var,Pat.scope,zJ,yP]
theorem patX_lf : Pat.lf PlcS patX=[(patX,PlcS),(evX 0 0,PlcS),(evX 1 1,⟨[0],[0],-1⟩)]:=by
 have e1:PlcS.plus (evX 0 0)=⟨[0],[0],-1⟩:=by simp only [Plc.plus,PlcS];rw [evX_bound,evX_ones,uni_1]
 have e3:∀ l t v,Pat.lf l (evX t v)=[(evX t v,l)]:=fun l t v=>by simp [evX,Pat.lf,Pat.lfL]
 rw [patX,Pat.lf,Pat.lfL,Pat.lfL,Pat.lfL,show decide ((1:Int)=1)=true from rfl,if_pos rfl,e1,e3,e3]
 rfl
theorem patX_sc : patX.scE=0:=by
 have c0:xw (patX,PlcS)=0:=by simp [xw,patX,Pat.op,wp]
 have c1:∀ t v l,xw (evX t v,l)=0:=fun t v l=>by unfold xw;rw [if_pos (by rfl)];exact yes_fol _
 rw [scE_eq ua,patX_lf]
 simp only [zu,c0,c1];rfl
theorem cndX {ts:List Sch} {vs:List Vr} (h:xU ts vs=0):cndE ts vs yesE=0:=by rw [cndE,kindP_yes h];rfl
theorem tpX : tpE tsX vsX patX=0:=by
 have n0:ndE tsX vsX patX=0:=by simp [ndE,patX,Pat.op]
 have n1:ndE tsX vsX (evX 0 0)=0:=by
  have:ndE tsX vsX (evX 0 0)=cndE tsX vsX yesE:=by simp [ndE,evX,Pat.op,Pat.cond,Pat.ty,Pat.var,vty,vsX]
  rw [this,cndX tT]
 have n2:ndE tsX vsX (evX 1 1)=0:=by
  have:ndE tsX vsX (evX 1 1)=cndE tsX vsX yesE:=by simp [ndE,evX,Pat.op,Pat.cond,Pat.ty,Pat.var,vty,vsX]
  rw [this,cndX tT]
 have c:cntE patX vsX=0:=by rw [cntE,ua,patX_nv];decide
 rw [tpE,tT,c,xi,patX_sc]
 simp [zu,n0,n1,n2]
theorem tpY : tpE tsX vsY patX=9∧tpI tsX vsY patX=1:=by
 have n0:ndE tsX vsY patX=0:=by simp [ndE,patX,Pat.op]
 have n1:ndE tsX vsY (evX 0 0)=9:=by simp [ndE,evX,Pat.op,Pat.ty,Pat.var,vty,vsY]
 have c:cntE patX vsY=0:=by rw [cntE,ua,patX_nv];decide
 rw [tpE,tpI,dclY,c,xi]
 simp [zu,yX,n0,n1]
theorem fld_nodes (f:Int):(zB f).nodes=[zB f]:=by simp [zB,Ex.nodes,Ex.nodesL]
theorem fld_node (f:Int) (h:0≤f∧f<8):(zB f).nodeE=0:=by
 simp [Ex.nodeE,zB,Ex.op,Ex.args,Ex.var,Ex.fld,Ex.kind,Ex.val,Ex.formB,wD,wC,vp,vM];omega
theorem fld_chk (f:Int) (h:0≤f∧f<8):(zB f).chk=0:=by
 have h1:(zB f).cnt=1:=by simp [zB,Ex.cnt,Ex.cntL]
 have h2:(zB f).dep=1:=by simp [zB,Ex.dep,Ex.depL]
 rw [Ex.chk,h1,h2,fld_nodes,if_neg (by decide),if_neg (by decide)]
 exact xc fun q hq=>by rw [List.mem_singleton.1 hq];exact fld_node f h
theorem blw_chk (f:Int) (h:0≤f∧f<8):(yK (zB f)).chk=0:=by
 have h1:(yK (zB f)).cnt=3:=by simp [yK,zB,Ex.cnt,Ex.cntL]
 have h2:(yK (zB f)).dep=2:=by simp [yK,zB,Ex.dep,Ex.depL]
 have h3:(yK (zB f)).nodes=[yK (zB f),zB f,.mk 0 [] 0 0 0 ⟨0,1,⟨#[]⟩⟩]:=by simp [yK,zB,Ex.nodes,Ex.nodesL]
 have hz:(⟨#[]⟩:ByteArray).size=0:=rfl
 have n1:(yK (zB f)).nodeE=0:=by
  simp [Ex.nodeE,yK,Ex.op,Ex.args,Ex.var,Ex.fld,Ex.kind,Ex.val,Ex.formB,wD,wC,vp,vM]
 have n3:(Ex.mk 0 [] 0 0 0 ⟨0,1,⟨#[]⟩⟩).nodeE=0:=by
  simp [hz,Ex.nodeE,Ex.op,Ex.args,Ex.var,Ex.fld,Ex.kind,Ex.val,Ex.consE,Ex.formB,wD,wC,vp,vM,Vl.chk,Vl.sizeE]
 rw [Ex.chk,h1,h2,h3,if_neg (by decide),if_neg (by decide)]
 exact xc fun q hq=>by
  simp only [List.mem_cons,List.not_mem_nil,or_false] at hq
  rcases hq with rfl | rfl | rfl
  · exact n1
  · exact fld_node f h
  exact n3
theorem fld_sm (f:Int):(zB f).Sm:=by simp [Ex.Sm,zB,Ex.cnt,Ex.cntL]
theorem blw_sm (f:Int):(yK (zB f)).Sm:=by simp [Ex.Sm,yK,zB,Ex.cnt,Ex.cntL]
theorem fld_kind : Ex.kindK tsX vsX (zB 0)=(0,0)∧Ex.kindK tsX vsX (zB 1)=(2,0):=by
 constructor<;>simp [zB,Ex.kindK,wn,tsX,vsX]
theorem one_kind (ts:List Sch) (vs:List Vr):Ex.kindK ts vs (.mk 0 [] 0 0 0 ⟨0,1,⟨#[]⟩⟩)=(0,0):=by simp [Ex.kindK,wn]
theorem cndX1 : cndE tsX vsX (yK (zB 0))=0:=by
 obtain ⟨_,_,hv⟩:=ux tT
 have k:Ex.kindK tsX vsX (yK (zB 0))=(1,0):=by
  rw [yK,vF (by simp)]
  simp [Ex.kindsK,fld_kind.1,one_kind,uH,fK]
 rw [cndE,kindP,um,hv,blw_chk 0 (by omega),k];rfl
theorem cndX2 : cndE tsX vsX (zB 0)=9:=by
 obtain ⟨_,_,hv⟩:=ux tT
 rw [cndE,kindP,um,hv,fld_chk 0 (by omega),fld_kind.1];rfl
theorem cndX3 : cndE tsX vsX (yK (zB 1))=9:=by
 obtain ⟨_,_,hv⟩:=ux tT
 have k:Ex.kindK tsX vsX (yK (zB 1))=(0,9):=by
  rw [yK,vF (by simp)]
  simp [Ex.kindsK,fld_kind.2,one_kind,uH,fK]
 rw [cndE,kindP,um,hv,blw_chk 1 (by omega),k];rfl
theorem kndX : kindP tsX vsX (zB 0)=(0,0):=by
 obtain ⟨_,_,hv⟩:=ux tT
 rw [kindP,um,hv,fld_chk 0 (by omega),fld_kind.1];rfl
theorem rtX : patX.rtE [zB 0]=0:=by
 have hp:patX.retP=⟨[0,1],[0,1],-1⟩:=by rw [Pat.retP,patX_bound,patX_ones]
 have r1:uj ⟨[0,1],[0,1],-1⟩ (zB 0)=0:=by
  rw [uj,fld_chk 0 (by omega),Ex.fol,fld_nodes]
  simp [zu,tU,zB,Ex.op,Ex.var]
 rw [rtE_eq ua (by decide),hp]
 simp [zu,r1]
theorem rtsX (key:List Int):wQ tsX (qX key [zB 0])=0∧vH tsX (qX key [zB 0])=[0]:=by
 have e:wQ tsX (qX key [zB 0])=0:=by
  unfold wQ
  show (if tpE tsX vsX patX≠0 then tpE tsX vsX patX else if uI [zB 0]≠0 then uI [zB 0] else if zu (rkE tsX vsX) [zB 0]≠0 then zu (rkE tsX vsX) [zB 0] else patX.rtE [zB 0])=0
  have r:rkE tsX vsX (zB 0)=0:=by rw [rkE,kndX]
  have l:uI [zB 0]=0:=by simp [uI]
  rw [tpX,rtX,l,zu,r,zu];rfl
 refine ⟨e,?_⟩
 rw [vH,e,if_neg (by simp)]
 show [rkK tsX vsX (zB 0)]=[0]
 rw [rkK,kndX]
theorem rtsX0 (key:List Int):wQ tsX (qX key [])=15:=by
 unfold wQ
 show (if tpE tsX vsX patX≠0 then tpE tsX vsX patX else if uI []≠0 then uI [] else _)=15
 have l:uI []=15:=by simp [uI]
 rw [tpX,l,if_neg (by simp),if_pos (by decide)]
theorem chkX (key:List Int) (r:List Ex):y5 tsX (qX key r)=if wH tsX vsX key≠0 then wH tsX vsX key else wQ tsX (qX key r):=by
 unfold y5 tkE
 show (if zU tsX≠0 then zU tsX else if nmE [113]≠0 then nmE [113] else if tpE tsX vsX patX≠0 then tpE tsX vsX patX else if (if xU tsX vsX≠0 then xU tsX vsX else wH tsX vsX key)≠0 then (if xU tsX vsX≠0 then xU tsX vsX else wH tsX vsX key) else wQ tsX (qX key r))=_
 rw [um,nmX,tpX,tT];simp
theorem chkX1 : y5 tsX (qX [1,0] [zB 0])=0:=by rw [chkX,keyX1,(rtsX _).1];rfl
theorem chkX2 : y5 tsX (qX [0,0] [zB 0])=9:=by rw [chkX,keyX2];rfl
theorem chkX3 : y5 tsX (qX [1,-1] [zB 0])=16:=by rw [chkX,keyX3];rfl
theorem chkX4 : y5 tsX (qX [1,0] [])=15:=by rw [chkX,keyX1,rtsX0];rfl
end Go.Am
end
