/- Contracts of the program's functions. -/
import Derived.Test.YtpdmaimjllhooaaGreatDoorCards
import Derived.Test.YtpdmaimjllhooaaGreatDoorProg
import Derived.Test.YtpdmaimjllhooaaGreatDoorRows
import Derived.Test.YtpdmaimjllhooaaGreatDoorTie
import Derived.Test.YtpdmaimjllhooaaGreatDoorPCt13
import Derived.Test.YtpdmaimjllhooaaGreatDoorPCt14
section
set_option maxHeartbeats 16000000
set_option maxRecDepth 100000
namespace Go.Am
open Go.Proofs
def xJ (ts:List Sch):List Bs→List Vr→Int
 | _,[]=>0
 | seen,v :: r=>if nmE v.nm≠0 then nmE v.nm else if v.nm∈seen then 7 else if tyB ts v=false then 6 else xJ ts (seen++[v.nm]) r
def xR (ts:List Sch) (vs:List Vr):Int:=if 16<vs.length then 5 else xJ ts [] vs
def xU (ts:List Sch) (vs:List Vr):Int:=if zU ts≠0 then zU ts else xR ts vs
theorem P_variables (ts:List Sch) (vs:List Vr) (hts:x9 ts) (hvs:vs.length<1048577) (hvn:∀ v∈vs,v.nm.length<1048577):PCall EL 97 [.isl 2 (mapE Sch.enc ts),.isl 2 (mapE Vr.enc vs)] (int (xR ts vs)):=by
 have kts:=Sch.closedI ts
 have kvs:=Vr.closedI vs
 have htl:=hts.len
 obtain ⟨R,hR⟩:∃ R,R=xR ts vs:=⟨_,rfl⟩
 rw [← hR]
 rw [xR] at hR
 have hel:(mapE Sch.enc ts).length=ts.length:=zr ..
 have hev:(mapE Vr.enc vs).length=vs.length:=zr ..
 generalize mapE Sch.enc ts=ets at *
 generalize hes:mapE Vr.enc vs=evs at *
 refine zt ?_;unhygienic intros
 refine fB T97 [.t 4] ?_
 by_cases h16:16<vs.length
 · have k16:iLt 16 (lenA evs)=true:=by simp only [ee];simp;omega
   rw [hR,if_pos h16]
   have fz:=k16
   refine Cq ?_
   refine Aq ?_
   exact fV
 have k16:iLt 16 (lenA evs)=false:=by simp only [ee];simp;omega
 rw [if_neg h16] at hR
 have fz:=k16
 refine Cq ?_
 refine Cr ?_
 refine Aq ?_
 refine za (ι:=List Vr × List Vr × Int × List (AV × AV)) (fun p=>([(15,int p.2.2.1),(14,int (lenA evs)),(13,.isl 2 evs),(5,.amap 0),(0,.isl 2 ets)],[.amap p.2.2.2])) (fun p=>vs=p.1++p.2.1∧p.2.2.1=p.1.length∧p.2.2.2=ents (p.1.map Vr.nm)∧R=xJ ts (p.1.map Vr.nm) p.2.1) (fun p=>p.2.1.length) ([],vs,0,[]) ⟨rfl,rfl,rfl,hR⟩ ?_ ?_
 · have kcM:y3 []=true:=rfl
   exact (eS [.to 0] [some 0])
 rintro ⟨d,r,i,m⟩ ⟨g1,gi,gm,gc⟩
 dsimp only at g1 gi gm gc ⊢
 cases r with
 | nil =>
  have L1:=zw g1
  try simp only [List.length] at L1
  have hc:iLt i (lenA evs)=false:=xg e_iLt e_lenA (by omega)
  rw [gc,xJ]
  have fz:=hc
  refine Cq ?_
  refine Aq ?_
  refine zl ?_
  refine Aq ?_
  exact fV
 | cons v r =>
  have L1:=zw g1
  try simp only [List.length] at L1
  have hc:iLt i (lenA evs)=true:=xf e_iLt e_lenA (by omega)
  have hat:=z7 e_atA hes g1 gi
  rw [Vr.enc_eq] at hat
  have hi2:iAdd .i64 i 1=((d++[v]).length:Int):=by rw [List.length_append];exact yq e_iAdd gi (by omega)
  have pn:=P_lxName v.nm (hvn v (by rw [g1];simp))
  have gc2:xJ ts (d.map Vr.nm++[v.nm]) r=xJ ts ((d++[v]).map Vr.nm) r:=by simp
  rw [xJ,gc2] at gc
  have kokL:mOkL true m (str (ba v.nm))=true:=by rw [gm];exact ut _ _
  have kok:mOk true m (str (ba v.nm))=true:=by simp only [ee];rw [gm];exact ut _ _
  have kget:mGet true m (str (ba v.nm)) (bool false)=bool (decide (v.nm∈d.map Vr.nm)):=by simp only [ee];rw [gm];exact uZ _ _
  have kput:v.nm∉d.map Vr.nm→mPut true m (str (ba v.nm)) (bool true)=ents ((d++[v]).map Vr.nm):=fun h=>by simp only [ee];rw [gm,uU _ _ h];simp
  have htB:tyB ts v=decide (0≤v.ty∧v.ty<(ts.length:Int)):=rfl
  rw [htB] at gc
  clear hR htB hvn gc2
  generalize v.ty=ty at *
  generalize nmE v.nm=ne at *
  generalize hin:decide (v.nm∈d.map Vr.nm)=bi at *
  generalize ba v.nm=nm at *
  by_cases h1:ne=0
  rotate_left
  · have q0:iNe ne 0=true:=by simp only [ee];simpa using h1
    rw [if_pos h1] at gc
    rw [gc]
    clear kput kokL kget kok
    have fz:=And.intro hc (And.intro hat q0)
    refine Cq ?_
    refine Cr ?_
    refine oPA pn ?_
    refine Cq ?_
    refine Aq ?_
    refine zi ?_
    refine Aq ?_
    exact fV
  have q0:iNe ne 0=false:=by simp only [ee];simpa using h1
  rw [if_neg (by omega)] at gc
  cases bi with
  | true =>
   rw [if_pos (of_decide_eq_true hin)] at gc
   rw [gc]
   clear kput kokL
   have fz:=And.intro hc (And.intro hat (And.intro q0 (And.intro kget kok)))
   refine Cq ?_
   refine Cr ?_
   refine oPA pn ?_
   refine Cq ?_
   refine Cr ?_
   refine Aq ?_
   refine zi ?_
   refine Aq ?_
   exact fV
  | false =>
  rw [if_neg (of_decide_eq_false hin)] at gc
  have kp:=kput (of_decide_eq_false hin)
  clear kput
  have kcM:y3 (mPut true m (str nm) (bool true))=true:=by rw [kp];exact uS _
  by_cases n1:ty<0
  · have q1:iLt ty 0=true:=by simp only [ee];simpa using n1
    rw [if_pos (by simp;omega)] at gc
    rw [gc]
    have fz:=And.intro hc (And.intro hat (And.intro q0 (And.intro kget (And.intro kok q1))))
    refine Cq ?_
    refine Cr ?_
    refine oPA pn ?_
    refine Cq ?_
    refine Cr ?_
    refine Cr ?_
    refine oC (fun c1=>?_) fun c1=>?_
    ·
     simp [ee] at c1
     refine Aq ?_
     refine zi ?_
     refine Aq ?_
     exact fV
    simp [ee] at c1
  have q1:iLt ty 0=false:=by simp only [ee];simpa using n1
  by_cases n2:(ts.length:Int)≤ty
  · have q2:iLe (lenA ets) ty=true:=by simp only [ee];simp;omega
    rw [if_pos (by simp;omega)] at gc
    rw [gc]
    have fz:=And.intro hc (And.intro hat (And.intro q0 (And.intro kget (And.intro kok (And.intro q1 q2)))))
    refine Cq ?_
    refine Cr ?_
    refine oPA pn ?_
    refine Cq ?_
    refine Cr ?_
    refine Cr ?_
    refine oC (fun c1=>?_) fun c1=>?_
    ·
     simp [ee] at c1
     refine Aq ?_
     refine zi ?_
     refine Aq ?_
     exact fV
    simp [ee] at c1
  have q2:iLe (lenA ets) ty=false:=by simp only [ee];simp;omega
  rw [if_neg (by simp;omega)] at gc
  have fz:=And.intro hc (And.intro hat (And.intro q0 (And.intro kget (And.intro kok (And.intro q1 q2)))))
  refine Cq ?_
  refine Cr ?_
  refine oPA pn ?_
  refine Cq ?_
  refine Cr ?_
  refine Cr ?_
  refine oC (fun c1=>?_) fun c1=>?_
  ·
   simp [ee] at c1
  simp [ee] at c1
  refine Aq ?_
  refine zp (d++[v],r,iAdd .i64 i 1,mPut true m (str nm) (bool true)) ⟨by simp [g1],hi2,kp,gc⟩ (by simp) (eS [.to 0,.gone] [some 0])
structure Prt where
 g:FuncId
 cs:List AV
 i:Int
 e:Int
def Prt.enc (p:Prt):AV:=.agg [.fn p.g p.cs]
theorem Prt.closedL {l:List Prt} (h:∀ p∈l,AV.closedL p.cs=true):AV.closedL (mapE Prt.enc l)=true:=by
 rw [zn]
 induction l with
 | nil=>rfl
 | cons p l ih=>rw [List.map_cons,AV.closedL,ih fun q hq=>h q (by simp [hq])];simp [Prt.enc,AV.closed,AV.closedL,h p (by simp)]
def uC (l:List Prt):Int:=match l with
 | []=>0
 | p :: r=>if p.e≠0 then p.i else uC r
theorem prtI_skip {d r:List Prt} (h:∀ q∈d,q.e=0):uC (d++r)=uC r:=by
 induction d with
 | nil=>rfl
 | cons q d ih=>rw [List.cons_append,uC,if_neg (by simpa using h q (by simp)),ih fun x hx=>h x (by simp [hx])]
theorem prtE_skip {d r:List Prt} (h:∀ q∈d,q.e=0):zu Prt.e (d++r)=zu Prt.e r:=by
 rw [yr,xc h];simp
theorem enters_typecheck_whole : yz EE.P 51:=enters_of rfl (by decide) T51.2
theorem enters_typecheck_whole_1 : yz EE.P 98:=enters_of rfl (by decide) T98.2
theorem enters_typecheck_first : yz EE.P 49:=enters_of rfl (by decide) T49.2
theorem P_first (l:List Prt) (hl:l.length<1048577) (hcl:∀ p∈l,AV.closedL p.cs=true) (h:∀ d p r,l=d++p :: r→(∀ q∈d,q.e=0)→PCall EL p.g p.cs (.tup [int p.i,int p.e])) :
 PCall EL 49 [.isl 1 (mapE Prt.enc l)] (.tup [int (uC l),int (zu Prt.e l)]):=by
 have kcl:=Prt.closedL hcl
 have kci:(AV.isl 1 (mapE Prt.enc l)).closed=true:=kcl
 obtain ⟨R1,hR1⟩:∃ R,R=uC l:=⟨_,rfl⟩
 obtain ⟨R2,hR2⟩:∃ R,R=zu Prt.e l:=⟨_,rfl⟩
 rw [← hR1,← hR2]
 refine zt ?_;unhygienic intros
 generalize hes:mapE Prt.enc l=es at *
 have hel:es.length=l.length:=by rw [← hes,zr]
 refine fB T49 [.t 2,.t 3] ?_
 refine Aq ?_
 refine za (ι:=List Prt × List Prt × Int) (fun p=>([(10,int p.2.2),(9,int (lenA es)),(8,.isl 1 es)],[])) (fun p=>l=p.1++p.2.1∧p.2.2=p.1.length∧∀ q∈p.1,q.e=0) (fun p=>p.2.1.length) ([],l,0) ⟨rfl,rfl,by simp⟩ ?_ ?_
 · exact (eS [] [])
 rintro ⟨d,r,i⟩ ⟨g1,gi,gd⟩
 dsimp only at g1 gi gd ⊢
 have r1:R1=uC r:=by rw [hR1,g1,prtI_skip gd]
 have r2:R2=zu Prt.e r:=by rw [hR2,g1,prtE_skip gd]
 cases r with
 | nil =>
  have L1:=zw g1
  try simp only [List.length] at L1
  have hc:iLt i (lenA es)=false:=xg e_iLt e_lenA (by omega)
  rw [r1,r2,uC,zu]
  clear h
  have fz:=hc
  refine Cq ?_
  refine Aq ?_
  refine zl ?_
  refine Aq ?_
  exact fE []
 | cons p r =>
  have L1:=zw g1
  try simp only [List.length] at L1
  have hc:iLt i (lenA es)=true:=xf e_iLt e_lenA (by omega)
  have hat:=z7 e_atA hes g1 gi
  have hp:=h d p r g1 gd
  have hpc:=hcl p (by rw [g1];simp)
  have hi2:iAdd .i64 i 1=((d++[p]).length:Int):=by rw [List.length_append];exact yq e_iAdd gi (by omega)
  have hgood:p.e=0→∀ q∈d++[p],q.e=0:=fun e q hq=>by
   rcases List.mem_append.1 hq with hq | hq
   · exact gd q hq
   rw [List.mem_singleton.1 hq];exact e
  rw [Prt.enc] at hat
  rw [uC] at r1
  rw [zu] at r2
  clear h hcl hR1 hR2
  obtain ⟨pg,pc,pi,pe⟩:=p
  dsimp only at *
  have hfc:(AV.fn pg pc).closed=true:=by simpa [AV.closed] using hpc
  by_cases n1:pe=0
  · have q1:iNe pe 0=false:=by simp only [ee];simpa using n1
    have hgood:=hgood n1
    have fz:=And.intro hc (And.intro hat q1)
    refine Cq ?_
    refine Cr ?_
    refine yI (args:=pc) rfl rfl rfl rfl hp (by simp [hpc]) ?_
    refine Cq ?_
    refine Aq ?_
    refine zp (d++[⟨pg,pc,pi,pe⟩],r,iAdd .i64 i 1) ⟨by rw [g1];simp,hi2,hgood⟩ (by simp) (eS [.gone] [])
  have q1:iNe pe 0=true:=by simp only [ee];simpa using n1
  rw [if_pos n1] at r1 r2
  rw [r1,r2]
  have fz:=And.intro hc (And.intro hat q1)
  refine Cq ?_
  refine Cr ?_
  refine yI (args:=pc) rfl rfl rfl rfl hp (by simp [hpc]) ?_
  refine Cq ?_
  refine Aq ?_
  refine zi ?_
  refine Aq ?_
  exact fE [.gone]
theorem x4 (g:FuncId) (cs:List AV) (hcs:AV.closedL cs=true):PCall EL 51 [.fn g cs] (.agg [.fn 98 [.iptr [.fn g cs]]]):=by
 have hf1:AV.closedL [.fn g cs]=true:=by simpa [AV.closed,AV.closedL] using hcs
 refine zt ?_;unhygienic intros
 refine fB T51 [.cell 2 1 true] ?_
 refine Aq ?_
 refine zD rfl rfl ?_
 exact ⟨[.icells [.fn g cs],.gone],⟨⟨_,rfl,(zx _ hf1).symm⟩,trivial,trivial⟩,.refl _⟩
theorem y9 {g:FuncId} {cs:List AV} {e:Int} (hcs:AV.closedL cs=true) (h:PCall EL g cs (int e)):PCall EL 98 [.iptr [.fn g cs]] (.tup [int 0,int e]):=by
 have hfc:(AV.fn g cs).closed=true:=by simpa [AV.closed] using hcs
 refine zt ?_;unhygienic intros
 refine fB T98 [.t 1,.t 2] ?_
 refine Aq ?_
 refine yI (args:=cs) rfl rfl rfl rfl h (by simp [hcs]) ?_
 refine Aq ?_
 exact fE []
theorem P_declared1 (ts:List Sch) (hts:x9 ts):PCall EL 95 [.iptr [.isl 2 (mapE Sch.enc ts)]] (int (zU ts)):=by
 have p1:=(P_CheckAll ts (by have:=hts.len;omega) hts.sh).toL
 have kts:=Sch.closedI ts
 generalize mapE Sch.enc ts=ets at *
 generalize zU ts=ce at *
 refine zt ?_;unhygienic intros
 refine fB T95 [.t 1] ?_
 refine Aq ?_
 refine oPA p1 ?_
 refine Aq ?_
 exact fV
theorem P_declared2 (ts:List Sch) (vs:List Vr) (hts:x9 ts) (hvs:vs.length<1048577) (hvn:∀ v∈vs,v.nm.length<1048577):PCall EL 96 [.iptr [.isl 2 (mapE Sch.enc ts)],.iptr [.isl 2 (mapE Vr.enc vs)]] (int (xR ts vs)):=by
 have p1:=P_variables ts vs hts hvs hvn
 have kts:=Sch.closedI ts
 have kvs:=Vr.closedI vs
 generalize mapE Sch.enc ts=ets at *
 generalize mapE Vr.enc vs=evs at *
 generalize xR ts vs=ve at *
 refine zt ?_;unhygienic intros
 refine fB T96 [.t 2] ?_
 refine Aq ?_
 refine oPA p1 ?_
 refine Aq ?_
 exact fV
theorem ORep.env {E E':Env} {K:Ctx} {M:Nat} {w:World} {g:Option (Nat × Nat)} {o:AObj} (hP:E'.P=E.P) (h:ORep E K M w g o):ORep E' K M w g o:=by
 obtain ⟨P,G⟩:=E
 obtain ⟨P',G'⟩:=E'
 cases hP
 cases h<;>constructor<;>assumption
theorem ACall.toL {f:FuncId} {args:List AV} {H:zz} {R:AV→zz→Prop} (h:ACall EE f args H R):ACall EL f args H R:=fun K w ys hh hv=>by
 have hh2:HRep EE K w H:=⟨fun b o h=>ORep.env (E:=EL) (E':=EE) rfl (hh.obj b o h),hh.inj,hh.disj,hh.low,fun g=>by
  have hg:=hh.glob g
  revert hg
  show VRep K 0 w (cond (Nat.beq g 2) _ (EE.G g)) _→VRep K 0 w (EE.G g) _
  cases hb:Nat.beq g 2 with
  | true =>
   obtain rfl:=Nat.eq_of_beq_eq_true hb
   exact fun _=>.undef _
  | false=>exact fun h=>h⟩
 refine (h K w ys hh2 hv).mono ?_
 rintro e w' ⟨v',y,H',K',h1,h2,h3,h4,h5⟩
 have hm:=h5.mv hh2
 exact ⟨v',y,H',K',h1,h2,⟨fun b o h=>ORep.env (E:=EE) (E':=EL) rfl (h3.obj b o h),h3.inj,h3.disj,h3.low,fun g=>VRep.mono (K:=K) (K':=K') (fun b hb=>absurd hb (Nat.not_lt_zero _)) (Nat.le_refl _) h5.I hm.wc hm.cells (hh.glob g)⟩,h4,h5⟩
def Prt.Lazy : List Prt→Prop
 | []=>True
 | p :: r=>PCall EL p.g p.cs (.tup [int p.i,int p.e])∧(p.e=0→Prt.Lazy r)
theorem Prt.Lazy.at {p:Prt} {r:List Prt}:∀ {l d:List Prt},Prt.Lazy l→l=d++p :: r→(∀ q∈d,q.e=0)→PCall EL p.g p.cs (.tup [int p.i,int p.e])
 | _,[],h,e,_=>by subst e;exact h.1
 | _,q :: d,h,e,hd=>by subst e;exact Prt.Lazy.at (d:=d) (h.2 (hd q (by simp))) rfl fun x hx=>hd x (by simp [hx])
theorem P_firstL (l:List Prt) (hl:l.length<1048577) (hcl:∀ p∈l,AV.closedL p.cs=true) (h:Prt.Lazy l):PCall EL 49 [.isl 1 (mapE Prt.enc l)] (.tup [int (uC l),int (zu Prt.e l)]) :=
 P_first l hl hcl fun _d _p _r e hd=>h.at e hd
theorem O_declared (ts:List Sch) (vs:List Vr):OCall EL 50 [.isl 2 (mapE Sch.enc ts),.isl 2 (mapE Vr.enc vs)] (.sl 0 1 0 2) [.arr 1 [.agg [.fn 98 [.iptr [.fn 95 [.iptr [.isl 2 (mapE Sch.enc ts)]]]]],.agg [.fn 98 [.iptr [.fn 96 [.iptr [.isl 2 (mapE Sch.enc ts)],.iptr [.isl 2 (mapE Vr.enc vs)]]]]]]]:=by
 have kts:=Sch.closedI ts
 have kvs:=Vr.closedI vs
 generalize mapE Sch.enc ts=ets at *
 generalize mapE Vr.enc vs=evs at *
 have p1:=x4 95 [.iptr [.isl 2 ets]] (by simp [AV.closedL,zh,kts])
 have p2:=x4 96 [.iptr [.isl 2 ets],.iptr [.isl 2 evs]] (by simp [AV.closedL,zh,kts,kvs])
 have k1:AV.closedL [.isl 2 ets]=true:=by simp [AV.closedL,kts]
 have k2:AV.closedL [.isl 2 evs]=true:=by simp [AV.closedL,kvs]
 refine zt ?_;unhygienic intros
 refine oB T50 [.t 4] ?_
 refine goA 0 ?_
 refine yD (F':=[(5,.fn 95 [.iptr [.isl 2 ets]]),(2,.iptr [.isl 2 ets]),(3,.iptr [.isl 2 evs])]) (H':=[]) ?_ ?_
 · exact (yj [.icells ([AV.isl 2 ets]),.icells ([AV.isl 2 evs])] [] ⟨⟨_,rfl,(zx _ k1).symm⟩,⟨_,rfl,(zx _ k2).symm⟩,trivial⟩ trivial ⟨.refl _,.refl _,.refl _,trivial⟩)
 refine oPA p1 ?_
 refine Aq ?_
 refine oPA p2 ?_
 have kc:AV.closedL [.agg [.fn 98 [.iptr [.fn 95 [.iptr [.isl 2 ets]]]]],.agg [.fn 98 [.iptr [.fn 96 [.iptr [.isl 2 ets],.iptr [.isl 2 evs]]]]]]=true:=by simp [AV.closedL,xD,zE,zh,kts,kvs]
 refine Aq ?_
 refine yL (F2:=[(4,.sl 0 1 0 2)]) (H2:=[.arr 1 [.agg [.fn 98 [.iptr [.fn 95 [.iptr [.isl 2 ets]]]]],.agg [.fn 98 [.iptr [.fn 96 [.iptr [.isl 2 ets],.iptr [.isl 2 evs]]]]]]]) ?_ rfl ⟨rfl,rfl⟩
 exact (eS [.to 0] [some 0])
theorem P_Pattern1 (p:Pat) (vs:List Vr) {cs:List AV} (hp:p.enc=.agg cs) (hs:p.Sm) (_hvs:vs.length<1048577):PCall EL 52 [.iptr cs,.iptr [.isl 2 (mapE Vr.enc vs)]] (int (if p.chk≠0 then p.chk else if p.nVars≠vs.length then 15 else 0)):=by
 have p1:=(P_pattern_Count p hs).toL
 have kvs:=Vr.closedI vs
 have kpc:=Pat.closed p
 have hev:(mapE Vr.enc vs).length=vs.length:=zr ..
 generalize mapE Vr.enc vs=evs at *
 obtain ⟨pO,pA,pT,pV,pS,pN,pCo,pCa,pCv,pCf,pCk,pXk,pXn,pXt,hx⟩:=Pat.form p
 rw [hx] at hp p1 kpc
 injection hp with hp
 subst hp
 obtain ⟨R,hR⟩:∃ R,R=if p.chk≠0 then p.chk else if p.nVars≠vs.length then 15 else 0:=⟨_,rfl⟩
 rw [← hR]
 obtain ⟨nv,hnv⟩:∃ z:Int,z=p.nVars:=⟨_,rfl⟩
 have hq:p.nVars≠vs.length↔nv≠(vs.length:Int):=by omega
 rw [← hnv] at p1
 generalize p.chk=ck at *
 generalize (p.nScs:Int)=ns at *
 refine zt ?_;unhygienic intros
 by_cases h1:ck=0
 · have q1:iEq ck 0=true:=by simp only [ee];simpa using h1
   rw [if_neg (by omega)] at hR
   by_cases h2:nv=vs.length
   · have q2:iNe nv (lenA evs)=false:=by simp only [ee];rw [hev];simpa using h2
     rw [if_neg (by rw [hq];omega)] at hR
     rw [hR]
     subst h1
     refine fB T52 [.t 2] ?_
     refine Aq ?_
     refine oPA p1 ?_
     have fz:=And.intro q1 q2
     refine Cq ?_
     refine oC (fun c1=>?_) fun c1=>?_
     ·
      simp [ee] at c1
     simp [ee] at c1
     refine Aq ?_
     exact fV
   have q2:iNe nv (lenA evs)=true:=by simp only [ee];rw [hev];simpa using h2
   rw [if_pos (by rw [hq];exact h2)] at hR
   rw [hR]
   refine fB T52 [.t 2] ?_
   refine Aq ?_
   refine oPA p1 ?_
   have fz:=And.intro q1 q2
   refine Cq ?_
   refine oC (fun c1=>?_) fun c1=>?_
   ·
    simp [ee] at c1
    refine Aq ?_
    exact fV
   simp [ee] at c1
 have q1:iEq ck 0=false:=by simp only [ee];simpa using h1
 rw [if_pos h1] at hR
 rw [hR]
 refine fB T52 [.t 2] ?_
 refine Aq ?_
 refine oPA p1 ?_
 have fz:=q1
 refine Cq ?_
 refine oC (fun c1=>?_) fun c1=>?_
 ·
  simp [ee] at c1
 simp [ee] at c1
 refine Aq ?_
 exact fV
theorem P_Pattern2 (p:Pat) (ts:List Sch) (vs:List Vr) {cs:List AV} (hp:p.enc=.agg cs) (hs:p.Sm) (hts:x9 ts) (hvs:vs.length<1048577) (hv:∀ q∈p.nodes,q.op=0∨q.op=5→0≤q.var∧q.var<vs.length) :
 PCall EL 54 [.iptr [.isl 2 (mapE Sch.enc ts)],.iptr [.isl 2 (mapE Vr.enc vs)],.iptr cs] (.tup [int (yX (ndE ts vs) p.nodes),int (zu (ndE ts vs) p.nodes)]):=by
 have p1:=(C_node ts vs hts hvs p hs hv 0 (by omega) (by have:=hs.1;omega)).toL
 have kts:=Sch.closedI ts
 have kvs:=Vr.closedI vs
 have kpc:=Pat.closed p
 have hz:=idxE_zero (ndE ts vs) p.nodes
 generalize mapE Sch.enc ts=ets at *
 generalize mapE Vr.enc vs=evs at *
 generalize zu (ndE ts vs) p.nodes=e1 at *
 generalize yX (ndE ts vs) p.nodes=e2 at *
 generalize (p.cnt:Int)=e3 at *
 obtain ⟨pO,pA,pT,pV,pS,pN,pCo,pCa,pCv,pCf,pCk,pXk,pXn,pXt,hx⟩:=Pat.form p
 rw [hx] at hp p1 kpc
 injection hp with hp
 subst hp
 refine zt ?_;unhygienic intros
 refine fB T54 [.t 3,.t 4] ?_
 refine Aq ?_
 refine on_call rfl rfl rfl enters___typecheck_walker__node p1 ?_
 rintro v1 H1 (⟨h0,rfl,rfl⟩ | ⟨h0,rfl,m,rfl⟩)
 · rw [hz h0,h0]
   generalize 0+e3=e4 at *
   refine Aq ?_
   exact fE [.gone]
 have e5:0+e2=e2:=by omega
 rw [e5]
 refine Aq ?_
 exact fE [.gone]
theorem P_Pattern3 (p:Pat) {cs:List AV} (hp:p.enc=.agg cs) (hs:p.Sm):PCall EL 56 [.iptr cs] (.tup [int p.scI,int p.scE]):=by
 have p1:=(P_scCheck p hs).toL
 have kpc:=Pat.closed p
 generalize p.scI=e1 at *
 generalize p.scE=e2 at *
 obtain ⟨pO,pA,pT,pV,pS,pN,pCo,pCa,pCv,pCf,pCk,pXk,pXn,pXt,hx⟩:=Pat.form p
 rw [hx] at hp p1 kpc
 injection hp with hp
 subst hp
 refine zt ?_;unhygienic intros
 refine fB T56 [.t 1,.t 2] ?_
 refine Aq ?_
 refine oPA p1 ?_
 refine Aq ?_
 exact fE []
structure Qy where
 nm:Bs
 vs:List Vr
 key:List Int
 pat:Pat
 rets:List Ex
structure EncBoxQ where
 q:Qy→AV
 hq:∀ x,q x=.agg ([str (ba x.nm),.isl 2 (mapE Vr.enc x.vs),.isl 1 (mapE int x.key)]++x.pat.enc.cells++[.isl 8 (mapE Ex.enc x.rets)])
theorem encBoxQ_ne : Nonempty EncBoxQ:=⟨⟨_,fun _=>rfl⟩⟩
noncomputable def Qy.enc (x:Qy):AV:=(Classical.choice encBoxQ_ne).q x
theorem Qy.enc_eq (x:Qy):x.enc=.agg ([str (ba x.nm),.isl 2 (mapE Vr.enc x.vs),.isl 1 (mapE int x.key)]++x.pat.enc.cells++[.isl 8 (mapE Ex.enc x.rets)]):=(Classical.choice encBoxQ_ne).hq x
theorem Qy.form (x:Qy):∃ pO pA pT pV pS pN pCo pCa pCv pCf pCk pXk pXn pXt,x.enc=.agg [str (ba x.nm),.isl 2 (mapE Vr.enc x.vs),.isl 1 (mapE int x.key),int pO,.isl 14 pA,int pT,int pV,int pS,int pN,int pCo,.isl 8 pCa,int pCv,int pCf,int pCk,int pXk,int pXn,str pXt,.isl 8 (mapE Ex.enc x.rets)] ∧
 x.pat.enc=.agg [int pO,.isl 14 pA,int pT,int pV,int pS,int pN,int pCo,.isl 8 pCa,int pCv,int pCf,int pCk,int pXk,int pXn,str pXt]∧(AV.isl 14 pA).closed=true∧(AV.isl 8 pCa).closed=true:=by
 obtain ⟨pO,pA,pT,pV,pS,pN,pCo,pCa,pCv,pCf,pCk,pXk,pXn,pXt,hx⟩:=Pat.form x.pat
 have hc:=Pat.closed x.pat
 rw [hx] at hc
 refine ⟨pO,pA,pT,pV,pS,pN,pCo,pCa,pCv,pCf,pCk,pXk,pXn,pXt,?_,hx,?_,?_⟩
 · rw [Qy.enc_eq,hx];rfl
 · have:=hc;simp [AV.closed,AV.closedL] at this ⊢;exact this.1
 have:=hc;simp [AV.closed,AV.closedL] at this ⊢;exact this.2
def uX (vs:List Vr) (i:Int):Bool:=vs.any fun v=>decide (v.ty=i)
def uW (ts:List Sch) (vs:List Vr):Int→Int→List Int→Int
 | _,_,[]=>0
 | i,kd,k :: r=>if uX vs i=false then if k≠-1 then 16 else uW ts vs (i+1) kd r
  else if k<0∨((ts.getD i.toNat ⟨[],[]⟩).fs.length:Int)≤k then 16
  else if 0≤kd∧((ts.getD i.toNat ⟨[],[]⟩).fs.getD k.toNat ⟨[],0⟩).kd≠kd then 9
  else uW ts vs (i+1) ((ts.getD i.toNat ⟨[],[]⟩).fs.getD k.toNat ⟨[],0⟩).kd r
def wH (ts:List Sch) (vs:List Vr) (key:List Int):Int:=if key=[] then 0 else if key.length≠ts.length then 15 else uW ts vs 0 (-1) key
theorem sch_at {ts:List Sch} {i:Int} (h0:0≤i) (h1:i<ts.length):(mapE Sch.enc ts).getD i.toNat .undef=.agg [str (ba (ts.getD i.toNat ⟨[],[]⟩).nm),.isl 2 (mapE Fld.enc (ts.getD i.toNat ⟨[],[]⟩).fs)]:=by
 obtain ⟨d,x,r,e1,e2,_⟩:=vz (l:=ts) (n:=i.toNat) (by omega)
 rw [e1,← e2,zn,List.map_append,List.map_cons]
 simp [Sch.enc_eq]
theorem fld_at {fs:List Fld} {i:Int} (h0:0≤i) (h1:i<fs.length):(mapE Fld.enc fs).getD i.toNat .undef=.agg [str (ba (fs.getD i.toNat ⟨[],0⟩).nm),int (fs.getD i.toNat ⟨[],0⟩).kd]:=by
 obtain ⟨d,x,r,e1,e2,_⟩:=vz (l:=fs) (n:=i.toNat) (by omega)
 rw [e1,← e2,zn,List.map_append,List.map_cons]
 simp [Fld.enc_eq]
theorem fs_len {ts:List Sch} (hts:x9 ts) (i:Int):(ts.getD i.toNat ⟨[],[]⟩).fs.length<1048577:=by
 rw [List.getD_eq_getElem?_getD]
 cases h:ts[i.toNat]? with
 | none=>simp
 | some s=>exact hts.fs s (List.mem_of_getElem? h)
def vO (l:List Int):List (AV × AV):=l.map fun n=>(int n,bool true)
def tW (l:List Int) (s:Int):List Int:=if s∈l then l else l++[s]
theorem insI_mem (l:List Int) (s t:Int):t∈tW l s↔t∈l∨t=s:=by
 unfold tW
 split
 · rename_i h
   constructor
   · exact .inl
   rintro (h2 | rfl)
   · exact h2
   exact h
 simp
theorem entsI_ok (l:List Int) (s:Int):mOkL false (vO l) (int s)=true:=by
 unfold mOkL vO
 rw [List.all_eq_true]
 intro p hp
 obtain ⟨n,_,rfl⟩:=List.mem_map.1 hp
 rfl
theorem mIs_int (n s:Int) (v:AV):mIs false (int s) (int n,v)=decide (n=s):=by
 show ((if false=false∧IntKind.i64=IntKind.i64 then some (s == n) else none) == some true)=_
 rw [if_pos ⟨rfl,rfl⟩]
 by_cases h:n=s
 · subst h;rw [decide_eq_true rfl,beq_self_eq_true];rfl
 rw [decide_eq_false h,show (s == n)=false by rw [beq_eq_false_iff_ne];exact Ne.symm h];rfl
theorem entsI_cl : ∀ l:List Int,y3 (vO l)=true
 | []=>rfl
 | n :: l=>by
  have ih:=entsI_cl l
  rw [vO] at ih
  rw [vO,List.map_cons,y3,List.all_cons]
  exact ih
theorem entsI_get (s:Int):∀ l:List Int,mGetL false (vO l) (int s) (bool false)=bool (decide (s∈l))
 | []=>rfl
 | n :: l=>by
  have ih:=entsI_get s l
  rw [vO] at ih
  rw [vO,List.map_cons,mGetL,mIs_int]
  by_cases h:n=s
  · subst h;simp
  rw [decide_eq_false h,if_neg (by decide),ih]
  simp [Ne.symm h]
theorem entsI_put (s:Int):∀ l:List Int,mPutL false (vO l) (int s) (bool true)=vO (tW l s)
 | []=>rfl
 | n :: l=>by
  have ih:=entsI_put s l
  rw [vO] at ih
  rw [vO,List.map_cons,mPutL,mIs_int]
  by_cases h:n=s
  · subst h
    rw [decide_eq_true rfl,if_pos rfl,tW,if_pos (by simp)];rfl
  rw [decide_eq_false h,if_neg (by decide),ih,tW,tW]
  by_cases h2:s∈l
  · rw [if_pos h2,if_pos (by simp [h2])];rfl
  rw [if_neg h2,if_neg (by simp [h2,Ne.symm h])];rfl
theorem P_key (ts:List Sch) (x:Qy) (hts:x9 ts) (hvs:x.vs.length<1048577) (hk:x.key.length<1048577) :
 PCall EE 64 [.isl 2 (mapE Sch.enc ts),x.enc] (int (wH ts x.vs x.key)):=by
 obtain ⟨R,hR⟩:∃ R,R=wH ts x.vs x.key:=⟨_,rfl⟩
 rw [← hR]
 obtain ⟨pO,pA,pT,pV,pS,pN,pCo,pCa,pCv,pCf,pCk,pXk,pXn,pXt,hx,-,kpA,kpC⟩:=Qy.form x
 rw [hx]
 have kts:=Sch.closedI ts
 have kvs:=Vr.closedI x.vs
 have krs:=Ex.closedI x.rets
 have kks:=zq x.key
 have hel:(mapE Sch.enc ts).length=ts.length:=zr ..
 have hkl:(mapE int x.key).length=x.key.length:=zr ..
 have hevl:(mapE Vr.enc x.vs).length=x.vs.length:=zr ..
 have hsa:=fun i=>@sch_at ts i
 have hfl:=fs_len hts
 have htl:=hts.len
 generalize mapE Ex.enc x.rets=rs at *
 generalize mapE Sch.enc ts=ets at *
 generalize ba x.nm=qn at *
 generalize hkey:x.key=key at *
 generalize hvv:x.vs=vs at *
 generalize hes:mapE int key=es at *
 generalize hevs:mapE Vr.enc vs=evs at *
 clear hx hvv hkey
 rw [wH] at hR
 refine zt ?_;unhygienic intros
 have n1:bNot true=false:=by simp only [ee];rfl
 have n2:bNot false=true:=by simp only [ee];rfl
 refine fB T64 [.t 4] ?_
 by_cases h2:key=[]
 · have q2:iEq (lenA es) 0=true:=by simp only [ee];rw [hkl];simp [h2]
   rw [hR,if_pos h2]
   clear hsa
   have fz:=q2
   refine Cq ?_
   refine Aq ?_
   exact fV
 have q2:iEq (lenA es) 0=false:=by simp only [ee];rw [hkl];simpa using h2
 rw [if_neg h2] at hR
 by_cases h3:key.length=ts.length
 rotate_left
 · have q3:iNe (lenA es) (lenA ets)=true:=by simp only [ee];rw [hkl,hel];simp;omega
   rw [hR,if_pos h3]
   clear hsa
   have fz:=And.intro q2 q3
   refine Cq ?_
   refine Cr ?_
   refine Aq ?_
   exact fV
 have q3:iNe (lenA es) (lenA ets)=false:=by simp only [ee];rw [hkl,hel];simp;omega
 rw [if_neg (by omega)] at hR
 have fz:=And.intro q2 q3
 refine Cq ?_
 refine Cr ?_
 refine Cr ?_
 refine Aq ?_
 refine za (ι:=List Vr × List Vr × Int × List Int × List (AV × AV)) (fun p=>([(26,int p.2.2.1),(25,int (lenA evs)),(24,.isl 2 evs),(5,.amap 1),(3,.ptr 0 0),(0,.isl 2 ets)],[.cells [str qn,.isl 2 evs,.isl 1 es,int pO,.isl 14 pA,int pT,int pV,int pS,int pN,int pCo,.isl 8 pCa,int pCv,int pCf,int pCk,int pXk,int pXn,str pXt,.isl 8 rs],.amap p.2.2.2.2])) (fun p=>vs=p.1++p.2.1∧p.2.2.1=p.1.length∧p.2.2.2.2=vO p.2.2.2.1∧∀ t,uX p.1 t=decide (t∈p.2.2.2.1)) (fun p=>p.2.1.length) ([],vs,0,[],[]) ⟨rfl,rfl,rfl,fun _=>rfl⟩ ?_ ?_
 · have kcM:y3 []=true:=rfl
   exact (eS [.to 0,.to 1] [some 0,some 1])
 rintro ⟨d,r,i,l,m⟩ ⟨g1,gi,gm,gl⟩
 dsimp only at g1 gi gm gl ⊢
 have kcm:y3 m=true:=by rw [gm];exact entsI_cl _
 cases r with
 | cons v r =>
  have L1:=zw g1
  try simp only [List.length] at L1
  have hc:iLt i (lenA evs)=true:=xf e_iLt e_lenA (by omega)
  have hat:=z7 e_atA hevs g1 gi
  rw [Vr.enc_eq] at hat
  have hi2:iAdd .i64 i 1=((d++[v]).length:Int):=by rw [List.length_append];exact yq e_iAdd gi (by omega)
  have kok:mOk false m (int v.ty)=true:=by simp only [ee];rw [gm];exact entsI_ok _ _
  have kput:mPut false m (int v.ty) (bool true)=vO (tW l v.ty):=by simp only [ee];rw [gm,entsI_put]
  have kcM:y3 (mPut false m (int v.ty) (bool true))=true:=by rw [kput];exact entsI_cl _
  have gl2:∀ t,uX (d++[v]) t=decide (t∈tW l v.ty):=fun t=>by
   have:=gl t
   unfold uX at this ⊢
   rw [List.any_append,this,Bool.eq_iff_iff]
   simp only [List.any_cons,List.any_nil,Bool.or_false,Bool.or_eq_true,decide_eq_true_eq,insI_mem]
   constructor<;>(rintro (h | h);exact .inl h;exact .inr h.symm)
  clear hR hsa gl
  generalize v.ty=ty at *
  generalize ba v.nm=nm at *
  have fz:=And.intro hc hat
  refine Cq ?_
  have fz:=And.intro hc (And.intro hat kok)
  refine Cr ?_
  refine Aq ?_
  refine zp (d++[v],r,iAdd .i64 i 1,tW l ty,mPut false m (int ty) (bool true)) ⟨by rw [g1];simp,hi2,kput,gl2⟩ (by simp) ?_
  exact (eS [.to 0,.to 1,.gone] [some 0,some 1])
 | nil =>
  have L1:=zw g1
  try simp only [List.length] at L1
  have hc:iLt i (lenA evs)=false:=xg e_iLt e_lenA (by omega)
  rw [List.append_nil] at g1
  rw [← g1] at gl
  have fz:=hc
  refine Cq ?_
  refine Aq ?_
  refine zl ?_
  refine Aq ?_
  refine za (ι:=List Int × List Int × Int × Int) (fun p=>([(37,int p.2.2.1),(36,int (lenA es)),(35,.isl 1 es),(8,int p.2.2.2),(5,.amap 0),(0,.isl 2 ets)],[.amap m])) (fun p=>key=p.1++p.2.1∧p.2.2.1=p.1.length∧R=uW ts vs p.2.2.1 p.2.2.2 p.2.1) (fun p=>p.2.1.length) ([],key,0,-1) ⟨rfl,rfl,hR⟩ ?_ ?_
  · exact (eS [.gone,.to 0] [some 1])
  clear g1 gi L1 hc hR
  rintro ⟨d,r,i,kd⟩ ⟨g1,gi,gR⟩
  dsimp only at g1 gi gR ⊢
  cases r with
  | nil =>
   have L1:=zw g1
   try simp only [List.length] at L1
   have hc:iLt i (lenA es)=false:=xg e_iLt e_lenA (by omega)
   rw [gR,uW]
   clear hsa
   have fz:=hc
   refine Cq ?_
   refine Aq ?_
   refine zl ?_
   refine Aq ?_
   exact fV
  | cons k r =>
  have L1:=zw g1
  try simp only [List.length] at L1
  have hc:iLt i (lenA es)=true:=xf e_iLt e_lenA (by omega)
  have hat:=z7 e_atA hes g1 gi
  have hi2:iAdd .i64 i 1=((d++[k]).length:Int):=by rw [List.length_append];exact yq e_iAdd gi (by omega)
  have hi3:i+1=iAdd .i64 i 1:=by rw [hi2,gi];simp
  have hib:0≤i∧i<lenA es:=by simp only [ee];omega
  have hib2:0≤i∧i<lenA ets:=by simp only [ee];omega
  rw [uW,hi3] at gR
  have hs:=hsa i (by omega) (by omega)
  have hs:atA ets i=.agg [str (ba (ts.getD i.toNat ⟨[],[]⟩).nm),.isl 2 (mapE Fld.enc (ts.getD i.toNat ⟨[],[]⟩).fs)]:=by simp only [ee];exact hs
  have kok:mOk false m (int i)=true:=by simp only [ee];rw [gm];exact entsI_ok _ _
  have kget:mGet false m (int i) (bool false)=bool (uX vs i):=by simp only [ee];rw [gm,entsI_get,gl]
  have hfl:=hfl i
  clear hsa gl
  generalize ts.getD i.toNat ⟨[],[]⟩=s at *
  have hfe:(mapE Fld.enc s.fs).length=s.fs.length:=zr ..
  have kfs:=Fld.closedI s.fs
  have hfa:=fun a b=>@fld_at s.fs k a b
  generalize mapE Fld.enc s.fs=fes at *
  generalize ba s.nm=snm at *
  generalize uX vs i=u at *
  generalize (s.fs.getD k.toNat ⟨[],0⟩).kd=fk at *
  generalize ba (s.fs.getD k.toNat ⟨[],0⟩).nm=fnm at *
  cases u with
  | false =>
   rw [if_pos rfl] at gR
   clear hfa
   by_cases hm:k = -1
   · have q4:iNe k (-1)=false:=by simp only [ee];simpa using hm
     rw [if_neg (by omega)] at gR
     have fz:=And.intro hc (And.intro hat (And.intro kok (And.intro kget (And.intro n2 q4))))
     refine Cq ?_
     refine Cr ?_
     refine Cr ?_
     refine Aq ?_
     refine zp (d++[k],r,iAdd .i64 i 1,kd) ⟨by rw [g1];simp,hi2,gR⟩ (by simp) (eS [.to 0] [some 0])
   have q4:iNe k (-1)=true:=by simp only [ee];simpa using hm
   rw [gR,if_pos hm]
   have fz:=And.intro hc (And.intro hat (And.intro kok (And.intro kget (And.intro n2 q4))))
   refine Cq ?_
   refine Cr ?_
   refine Cr ?_
   refine Aq ?_
   refine zi ?_
   refine Aq ?_
   exact fV
  | true =>
  rw [if_neg (by decide)] at gR
  by_cases k0:k<0
  · have q4:iLt k 0=true:=by simp only [ee];simpa using k0
    rw [gR,if_pos (.inl k0)]
    clear hfa
    have fz:=And.intro hc (And.intro hat (And.intro kok (And.intro kget (And.intro n1 (And.intro hs q4)))))
    refine Cq ?_
    refine Cr ?_
    refine Cr ?_
    refine oC (fun c1=>?_) fun c1=>?_
    ·
     simp [ee] at c1
     refine Aq ?_
     refine zi ?_
     refine Aq ?_
     exact fV
    simp [ee] at c1
  have q4:iLt k 0=false:=by simp only [ee];simpa using k0
  by_cases k1:(s.fs.length:Int)≤k
  · have q5:iLe (lenA fes) k=true:=by simp only [ee];rw [hfe];simpa using k1
    rw [gR,if_pos (.inr k1)]
    clear hfa
    have fz:=And.intro hc (And.intro hat (And.intro kok (And.intro kget (And.intro n1 (And.intro hs (And.intro q4 q5))))))
    refine Cq ?_
    refine Cr ?_
    refine Cr ?_
    refine oC (fun c1=>?_) fun c1=>?_
    ·
     simp [ee] at c1
     refine Aq ?_
     refine zi ?_
     refine Aq ?_
     exact fV
    simp [ee] at c1
  have q5:iLe (lenA fes) k=false:=by simp only [ee];rw [hfe];simpa using k1
  rw [if_neg (by omega)] at gR
  have hfa:=hfa (by omega) (by omega)
  have hfa:atA fes k=.agg [str fnm,int fk]:=by simp only [ee];exact hfa
  have hkb:0≤k∧k<lenA fes:=by simp only [ee];omega
  by_cases d0:0≤kd
  · have q6:iLe 0 kd=true:=by simp only [ee];simpa using d0
    by_cases d1:fk=kd
    · have q7:iNe fk kd=false:=by simp only [ee];simpa using d1
      rw [if_neg (by omega)] at gR
      have fz:=And.intro hc (And.intro hat (And.intro kok (And.intro kget (And.intro n1 (And.intro hs (And.intro hfa (And.intro q4 (And.intro q5 (And.intro q6 q7)))))))))
      refine Cq ?_
      refine Cr ?_
      refine Cr ?_
      refine oC (fun c1=>?_) fun c1=>?_
      ·
       simp [ee] at c1
      simp [ee] at c1
      refine Cq ?_
      refine oC (fun c2=>?_) fun c2=>?_
      ·
       simp [ee] at c2
      simp [ee] at c2
      refine Cq ?_
      refine zp (d++[k],r,iAdd .i64 i 1,fk) ⟨by rw [g1];simp,hi2,gR⟩ (by simp) (eS [.to 0] [some 0])
    have q7:iNe fk kd=true:=by simp only [ee];simpa using d1
    rw [gR,if_pos ⟨by omega,d1⟩]
    have fz:=And.intro hc (And.intro hat (And.intro kok (And.intro kget (And.intro n1 (And.intro hs (And.intro hfa (And.intro q4 (And.intro q5 (And.intro q6 q7)))))))))
    refine Cq ?_
    refine Cr ?_
    refine Cr ?_
    refine oC (fun c1=>?_) fun c1=>?_
    ·
     simp [ee] at c1
    simp [ee] at c1
    refine Cq ?_
    refine oC (fun c2=>?_) fun c2=>?_
    ·
     simp [ee] at c2
     refine Aq ?_
     refine zi ?_
     refine Aq ?_
     exact fV
    simp [ee] at c2
  have q6:iLe 0 kd=false:=by simp only [ee];simpa using d0
  rw [if_neg (by omega)] at gR
  have fz:=And.intro hc (And.intro hat (And.intro kok (And.intro kget (And.intro n1 (And.intro hs (And.intro hfa (And.intro q4 (And.intro q5 q6))))))))
  refine Cq ?_
  refine Cr ?_
  refine Cr ?_
  refine oC (fun c1=>?_) fun c1=>?_
  ·
   simp [ee] at c1
  simp [ee] at c1
  refine Cq ?_
  refine oC (fun c2=>?_) fun c2=>?_
  ·
   simp [ee] at c2
  simp [ee] at c2
  refine Cq ?_
  refine zp (d++[k],r,iAdd .i64 i 1,fk) ⟨by rw [g1];simp,hi2,gR⟩ (by simp) (eS [.to 0] [some 0])
theorem P_Key1 (ts:List Sch) (x:Qy) {cs:List AV} (hp:x.enc=.agg cs) (hts:x9 ts) (hvs:x.vs.length<1048577) (hk:x.key.length<1048577):PCall EL 63 [.iptr [.isl 2 (mapE Sch.enc ts)],.iptr cs] (int (wH ts x.vs x.key)):=by
 have p1:=(P_key ts x hts hvs hk).toL
 have kts:=Sch.closedI ts
 have kvs:=Vr.closedI x.vs
 have krs:=Ex.closedI x.rets
 have kks:=zq x.key
 obtain ⟨pO,pA,pT,pV,pS,pN,pCo,pCa,pCv,pCf,pCk,pXk,pXn,pXt,hx,-,kpA,kpC⟩:=Qy.form x
 rw [hx] at hp p1
 injection hp with hp
 subst hp
 generalize wH ts x.vs x.key=R at *
 generalize mapE Sch.enc ts=ets at *
 generalize mapE Vr.enc x.vs=evs at *
 generalize mapE Ex.enc x.rets=rs at *
 generalize mapE int x.key=es at *
 generalize ba x.nm=nm at *
 clear hx
 refine zt ?_;unhygienic intros
 refine fB T63 [.t 2] ?_
 refine Aq ?_
 refine oPA p1 ?_
 refine Aq ?_
 exact fV
structure Lim where
 scope:Int
 span:Int
def Lim.enc (l:Lim):AV:=.agg [int l.scope,int l.span]
def yesE : Ex:=.mk 0 [] 0 0 0 ⟨1,1,⟨#[]⟩⟩
def eventP (k v:Int):Pat:=.mk 0 [] k v 0 0 yesE
theorem yesE.enc_eq : yesE.enc=.agg [int 0,.isl 8 [],int 0,int 0,int 0,int 1,int 1,str ⟨#[]⟩]:=by
 rw [yesE,Ex.enc_mk,zn];rfl
theorem eventP.enc_eq (k v:Int):(eventP k v).enc=.agg [int 0,.isl 14 [],int k,int v,int 0,int 0,int 0,.isl 8 [],int 0,int 0,int 0,int 1,int 1,str ⟨#[]⟩]:=by
 rw [eventP,yesE,Pat.enc_mk,zn,zn];rfl
theorem P_Flag (b:Bool):PCall EE 82 [bool b] (.agg [int 1,int (if b then 1 else 0),str ⟨#[]⟩]):=by
 refine zt ?_;unhygienic intros
 refine fB T82 [.cell 2 3 true] ?_
 cases b with
 | true =>
  refine Aq ?_
  exact fE [.gone]
 | false =>
  refine Aq ?_
  exact fE [.gone]
theorem scE_eq {p:Pat} (h:p.chk=0):p.scE=zu xw (Pat.lf PlcS p):=by rw [Pat.scE,if_neg (fun k=>k h)]
theorem scI_eq {p:Pat} (h:p.chk=0):p.scI=yX xw (Pat.lf PlcS p):=by rw [Pat.scI,if_neg (fun k=>k h)]
theorem rtE_eq {p:Pat} {l:List Ex} (h:p.chk=0) (hl:l.length≤256):p.rtE l=zu (uj p.retP) l:=by
 rw [Pat.rtE,if_neg (fun k=>k h),if_neg (by omega)]
def yK (e:Ex):Ex:=.mk 7 [e,.mk 0 [] 0 0 0 ⟨0,1,⟨#[]⟩⟩] 0 0 0 Vl0
theorem uni_2 {a b:Int} (h:a<b):yQ [a] [b]=[a,b]:=uni_ext (by simp [h]) fun n=>by simp
theorem uni_1 (a:Int):yQ [] [a]=[a]:=uni_nil (by simp)
theorem bound_of {p:Pat} {l:List Int} (h:wa p.nodes=l) (hl:l.Pairwise (· < ·)):p.bound=l :=
 sorted_ext _ _ p.bound_nodup hl fun n=>by rw [Pat.bound_mem,h]
theorem yes15_sm : yesE.Sm:=by simp [Ex.Sm,yesE,Ex.cnt,Ex.cntL]
theorem yes15_chk : yesE.chk=0:=by
 have h1:yesE.cnt=1:=by simp [yesE,Ex.cnt,Ex.cntL]
 have h2:yesE.dep=1:=by simp [yesE,Ex.dep,Ex.depL]
 have h3:yesE.nodes=[yesE]:=by simp [yesE,Ex.nodes,Ex.nodesL]
 rw [Ex.chk,h1,h2,h3]
 have hz:(⟨#[]⟩:ByteArray).size=0:=rfl
 simp [hz,zu,Ex.nodeE,yesE,Ex.op,Ex.args,Ex.var,Ex.fld,Ex.kind,Ex.val,Ex.consE,Ex.formB,wD,wC,vp,vM,Vl.chk,Vl.sizeE]
theorem yes_fol (s:Plc):yesE.fol s=0:=by
 have h3:yesE.nodes=[yesE]:=by simp [yesE,Ex.nodes,Ex.nodesL]
 rw [Ex.fol,h3];simp [zu,tU,yesE,Ex.op]
end Go.Am
end
