/- Contracts of the program's functions. -/
import Derived.Test.YtpdmaimjllhooaaGreatDoorProg
import Derived.Test.YtpdmaimjllhooaaGreatDoorRCt15
import Derived.Test.YtpdmaimjllhooaaGreatDoorCards
import Derived.Test.YtpdmaimjllhooaaGreatDoorRows
import Derived.Test.YtpdmaimjllhooaaGreatDoorTie
section
set_option maxHeartbeats 16000000
set_option maxRecDepth 100000
namespace Go.Am
open Go.Proofs
theorem ckV_eq (j:Int) (x:Pat × Plc):ckV j x (0,0)=((yI x,if yI x≠0 then j else 0),decide (yI x=0)):=by
 unfold ckV yI
 by_cases ht:yB x.1.op=true
 · rw [if_pos ht,if_pos ht]
   by_cases he:x.1.cond.fol (x.1.own x.2)=0
   · rw [if_pos he,he];rfl
   rw [if_neg he,if_pos he,decide_eq_false he]
 rw [if_neg ht,if_neg ht];rfl
theorem run_ck : ∀ (L:List (Pat × Plc)) (j:Int),(xE ckV j (0,0) L).1=(zm yI L,if zm yI L≠0 then j+1+yg yI L else 0)
 | [],j=>by
  rw [xE,zm];rfl
 | x :: r,j=>by
  by_cases h:yI x=0
  · have hv:ckV (j+1) x (0,0)=((0,0),true):=by rw [ckV_eq,h];rfl
    have e1:zm yI (x :: r)=zm yI r:=by rw [zm,if_neg (fun k=>k h)]
    rw [xE,hv,if_pos rfl,run_ck r (j+1),e1]
    by_cases h2:zm yI r=0
    · rw [if_neg (fun k=>k h2),if_neg (fun k=>k h2)]
    have e2:yg yI (x :: r)=yg yI r+1:=by rw [yg,if_neg (fun k=>k h),if_pos h2]
    rw [if_pos h2,if_pos h2,e2]
    exact congrArg (Prod.mk _) (by omega)
  have hv:ckV (j+1) x (0,0)=((yI x,j+1),false):=by rw [ckV_eq,if_pos h,decide_eq_false h]
  rw [xE,hv,if_neg (show ¬ (false=true) by decide),zm,if_pos h,yg,if_pos h,if_pos h,Int.add_zero]
theorem idx_zero {α:Type} {F:α→Int}:∀ {L:List α},zm F L=0→yg F L=0
 | [],_=>by rw [yg]
 | x :: r,h=>by
  rw [zm] at h
  rw [yg]
  by_cases hx:F x=0
  · rw [if_neg (by simpa using hx)] at h ⊢
    rw [if_neg (by simpa using h)]
  rw [if_pos hx] at h;exact absurd h hx
theorem sc_plain (p:Pat) (h:p.chk=0):(xE ckV (-1) (0,0) (Pat.lf PlcS p)).1=(p.scE,p.scI):=by
 have e1:p.scE=zm yI (Pat.lf PlcS p):=by unfold Pat.scE;rw [if_neg (fun k=>k h)]
 have e2:p.scI=yg yI (Pat.lf PlcS p):=by unfold Pat.scI;rw [if_neg (fun k=>k h)]
 rw [run_ck,e1,e2]
 by_cases h2:zm yI (Pat.lf PlcS p)=0
 · rw [idx_zero h2,if_neg (fun k=>k h2)]
 rw [if_pos h2]
 exact congrArg (Prod.mk _) (by omega)
theorem P_scCheck (p:Pat) (hs:p.Sm):PCall EE 57 [p.enc] (.tup [int p.scI,int p.scE]):=by
 have q1:=P_pattern_Check p hs
 have hcl:=Pat.closed p
 by_cases hk:p.chk=0
 · have hw:=ti hk
   have hcnt:=(chkR_zero.1 (we (vm hk).1).1).1
   have qw':=fun (dc:List AV) (hdc:AV.closedL dc=true)=>C_scwalk2 100 (fun s=>.cells [int s.1]) (fun s=>.cells [int s.2]) (fun _:Int × Int=>.cells dc) ckV enters_scope_Check_1 (fun _ _=>rfl) (fun _ _=>rfl) (fun _ σ=>congrArg AObj.cells (zp _ hdc)) (fun j x s h1 h2 h3 _=>C_ck1 dc hdc j x s h1 h2 h3) p hs hw (by omega) (0,0)
   rw [sc_plain p hk] at qw'
   dsimp only at qw'
   rw [hk] at q1
   generalize p.scI=ir at *
   generalize p.scE=er at *
   obtain ⟨pO,pA,pT,pV,pS,pN,pCo,pCa,pCv,pCf,pCk,pXk,pXn,pXt,hx,hxc,hpO,hpA,hpT,hpV,hpS,hpN⟩:=Pat.form2 p
   rw [hx] at qw' q1 hcl ⊢
   have hpAI:(AV.isl 14 pA).closed=true:=by have:=hcl;simp [AV.closed,AV.closedL] at this ⊢;exact this.1
   have hpCI:(AV.isl 8 pCa).closed=true:=by have:=hcl;simp [AV.closed,AV.closedL] at this ⊢;exact this.2
   have hdc:AV.closedL [int pO,.isl 14 pA,int pT,int pV,int pS,int pN,int pCo,.isl 8 pCa,int pCv,int pCf,int pCk,int pXk,int pXn,str pXt]=true:=hcl
   have qw:=qw' _ hdc
   clear hx hs hw qw'
   refine zr ?_;unhygienic intros
   have kc:iNe 0 0=false:=by simp only [ee];rfl
   refine fB T57 [.t 2,.t 3] ?_
   refine Aq ?_
   refine oPA q1 ?_
   have fz:=kc
   refine Cq ?_
   refine Aq ?_
   refine xu (F':=[(13,.fn 100 [.ptr 2 0,.ptr 1 0]),(12,.agg [int pO,.isl 14 pA,int pT,int pV,int pS,int pN,int pCo,.isl 8 pCa,int pCv,int pCf,int pCk,int pXk,int pXn,str pXt]),(5,.ptr 1 0),(6,.ptr 2 0)]) (H':=[.cells [int pO,.isl 14 pA,int pT,int pV,int pS,int pN,int pCo,.isl 8 pCa,int pCv,int pCf,int pCk,int pXk,int pXn,str pXt],.cells [int 0],.cells [int 0]]) ?_ ?_
   · exact (eS [.to 0,.to 1,.to 2] [some 0,some 1,some 2])
   refine wO [2,1,0] rfl rfl enters_scope_walk qw (by decide) (by simp) ?_ ?_ ?_
   · show _=[_,_,AObj.sub (ya [2,1,0]) (.cells [int pO,.isl 14 pA,int pT,int pV,int pS,int pN,int pCo,.isl 8 pCa,int pCv,int pCf,int pCk,int pXk,int pXn,str pXt])]
     rw [show AObj.sub (ya [2,1,0]) (.cells [int pO,.isl 14 pA,int pT,int pV,int pS,int pN,int pCo,.isl 8 pCa,int pCv,int pCf,int pCk,int pXk,int pXn,str pXt])=.cells [int pO,.isl 14 pA,int pT,int pV,int pS,int pN,int pCo,.isl 8 pCa,int pCv,int pCf,int pCk,int pXk,int pXn,str pXt] from congrArg AObj.cells (zp _ hdc)]
     rfl
   · show _=[AV.sub (ya [2,1,0]) (.agg [int pO,.isl 14 pA,int pT,int pV,int pS,int pN,int pCo,.isl 8 pCa,int pCv,int pCf,int pCk,int pXk,int pXn,str pXt]),AV.sub (ya [2,1,0]) (.fn 100 [.ptr 2 0,.ptr 1 0])]
     rw [zX _ _ _ (Nat.le_refl _) hcl];rfl
   rintro v0 H' rfl -
   have hm:∀ (a0 a1 a2:AObj),yX [a0,a1,a2] [2,1,0] [.cells [int er],.cells [int ir],.cells [int pO,.isl 14 pA,int pT,int pV,int pS,int pN,int pCo,.isl 8 pCa,int pCv,int pCf,int pCk,int pXk,int pXn,str pXt]]=[.cells [int pO,.isl 14 pA,int pT,int pV,int pS,int pN,int pCo,.isl 8 pCa,int pCv,int pCf,int pCk,int pXk,int pXn,str pXt],.cells [int ir],.cells [int er]]:=fun _ _ _=>by
    show [AObj.sub (vu [2,1,0] 3) (.cells [int pO,.isl 14 pA,int pT,int pV,int pS,int pN,int pCo,.isl 8 pCa,int pCv,int pCf,int pCk,int pXk,int pXn,str pXt]),_,_]=_
    rw [show AObj.sub (vu [2,1,0] 3) (.cells [int pO,.isl 14 pA,int pT,int pV,int pS,int pN,int pCo,.isl 8 pCa,int pCv,int pCf,int pCk,int pXk,int pXn,str pXt])=.cells [int pO,.isl 14 pA,int pT,int pV,int pS,int pN,int pCo,.isl 8 pCa,int pCv,int pCf,int pCk,int pXk,int pXn,str pXt] from congrArg AObj.cells (zp _ hdc)]
    rfl
   rw [hm]
   refine Aq ?_
   exact fE [.gone,.gone,.gone]
 have hE:p.scE=p.chk:=by unfold Pat.scE;rw [if_pos hk]
 have hI:p.scI=0:=by unfold Pat.scI;rw [if_pos hk]
 rw [hE,hI]
 generalize p.chk=er at *
 obtain ⟨pO,pA,pT,pV,pS,pN,pCo,pCa,pCv,pCf,pCk,pXk,pXn,pXt,hx,hxc,hpO,hpA,hpT,hpV,hpS,hpN⟩:=Pat.form2 p
 rw [hx] at q1 hcl ⊢
 clear hx hs hE hI
 refine zr ?_;unhygienic intros
 have kc:iNe er 0=true:=by simp only [ee];simpa using hk
 refine fB T57 [.t 2,.t 3] ?_
 refine Aq ?_
 refine oPA q1 ?_
 have fz:=kc
 refine Cq ?_
 refine Aq ?_
 exact fE [.gone]
theorem ORep.env {E E':Env} {K:Ctx} {M:Nat} {w:World} {g:Option (Nat × Nat)} {o:AObj} (hP:E'.P=E.P) (h:ORep E K M w g o):ORep E' K M w g o:=by
 obtain ⟨P,G⟩:=E
 obtain ⟨P',G'⟩:=E'
 cases hP
 cases h<;>constructor<;>assumption
theorem ACall.toL {f:FuncId} {args:List AV} {H:zz} {R:AV→zz→Prop} (h:ACall EE f args H R):ACall EL f args H R:=fun K w ys hh hv=>by
 have hh2:HRep EE K w H:=⟨fun b o h=>ORep.env (E:=EL) (E':=EE) rfl (hh.obj b o h),hh.inj,hh.disj,hh.low,fun g=>by
  have hg:=hh.glob g
  revert hg
  show VRep K 0 w (cond (Nat.beq g 2) _ (EE.G g)) _→VRep K 0 w (EE.G g) _
  cases hb:Nat.beq g 2 with
  | true =>
   obtain rfl:=Nat.eq_of_beq_eq_true hb
   exact fun _=>.undef _
  | false=>exact fun h=>h⟩
 refine (h K w ys hh2 hv).mono ?_
 rintro e w' ⟨v',y,H',K',h1,h2,h3,h4,h5⟩
 have hm:=h5.mv hh2
 exact ⟨v',y,H',K',h1,h2,⟨fun b o h=>ORep.env (E:=EE) (E':=EL) rfl (h3.obj b o h),h3.inj,h3.disj,h3.low,fun g=>VRep.mono (K:=K) (K':=K') (fun b hb=>absurd hb (Nat.not_lt_zero _)) (Nat.le_refl _) h5.I hm.wc hm.cells (hh.glob g)⟩,h4,h5⟩
def Prt.Lazy : List Prt→Prop
 | []=>True
 | p :: r=>PCall EL p.g p.cs (.tup [int p.i,int p.e])∧(p.e=0→Prt.Lazy r)
theorem Prt.Lazy.at {p:Prt} {r:List Prt}:∀ {l d:List Prt},Prt.Lazy l→l=d++p :: r→(∀ q∈d,q.e=0)→PCall EL p.g p.cs (.tup [int p.i,int p.e])
 | _,[],h,e,_=>by subst e;exact h.1
 | _,q :: d,h,e,hd=>by subst e;exact Prt.Lazy.at (d:=d) (h.2 (hd q (by simp))) rfl fun x hx=>hd x (by simp [hx])
theorem P_firstL (l:List Prt) (hl:l.length<1048577) (hcl:∀ p∈l,AV.closedL p.cs=true) (h:Prt.Lazy l):PCall EL 49 [.isl 1 (mapE Prt.enc l)] (.tup [int (u0 l),int (zm Prt.e l)]) :=
 P_first l hl hcl fun _d _p _r e hd=>h.at e hd
theorem O_declared (ts:List Sch) (vs:List Vr):OCall EL 50 [.isl 2 (mapE Sch.enc ts),.isl 2 (mapE Vr.enc vs)] (.sl 0 1 0 2) [.arr 1 [.agg [.fn 98 [.iptr [.fn 95 [.iptr [.isl 2 (mapE Sch.enc ts)]]]]],.agg [.fn 98 [.iptr [.fn 96 [.iptr [.isl 2 (mapE Sch.enc ts)],.iptr [.isl 2 (mapE Vr.enc vs)]]]]]]]:=by
 have kts:=Sch.closedI ts
 have kvs:=Vr.closedI vs
 generalize mapE Sch.enc ts=ets at *
 generalize mapE Vr.enc vs=evs at *
 have p1:=xG 95 [.iptr [.isl 2 ets]] (by simp [AV.closedL,zd,kts])
 have p2:=xG 96 [.iptr [.isl 2 ets],.iptr [.isl 2 evs]] (by simp [AV.closedL,zd,kts,kvs])
 have k1:AV.closedL [.isl 2 ets]=true:=by simp [AV.closedL,kts]
 have k2:AV.closedL [.isl 2 evs]=true:=by simp [AV.closedL,kvs]
 refine zr ?_;unhygienic intros
 refine oB T50 [.t 4] ?_
 refine goA 0 ?_
 refine xu (F':=[(5,.fn 95 [.iptr [.isl 2 ets]]),(2,.iptr [.isl 2 ets]),(3,.iptr [.isl 2 evs])]) (H':=[]) ?_ ?_
 · exact (zF [.icells ([AV.isl 2 ets]),.icells ([AV.isl 2 evs])] [] ⟨⟨_,rfl,(zp _ k1).symm⟩,⟨_,rfl,(zp _ k2).symm⟩,trivial⟩ trivial ⟨.refl _,.refl _,.refl _,trivial⟩)
 refine oPA p1 ?_
 refine Aq ?_
 refine oPA p2 ?_
 have kc:AV.closedL [.agg [.fn 98 [.iptr [.fn 95 [.iptr [.isl 2 ets]]]]],.agg [.fn 98 [.iptr [.fn 96 [.iptr [.isl 2 ets],.iptr [.isl 2 evs]]]]]]=true:=by simp [AV.closedL,wb,zA,zd,kts,kvs]
 refine Aq ?_
 refine xi (F2:=[(4,.sl 0 1 0 2)]) (H2:=[.arr 1 [.agg [.fn 98 [.iptr [.fn 95 [.iptr [.isl 2 ets]]]]],.agg [.fn 98 [.iptr [.fn 96 [.iptr [.isl 2 ets],.iptr [.isl 2 evs]]]]]]]) ?_ rfl ⟨rfl,rfl⟩
 exact (eS [.to 0] [some 0])
theorem P_Pattern1 (p:Pat) (vs:List Vr) {cs:List AV} (hp:p.enc=.agg cs) (hs:p.Sm) (_hvs:vs.length<1048577):PCall EL 52 [.iptr cs,.iptr [.isl 2 (mapE Vr.enc vs)]] (int (if p.chk≠0 then p.chk else if p.nVars≠vs.length then 15 else 0)):=by
 have p1:=(P_pattern_Count p hs).toL
 have kvs:=Vr.closedI vs
 have kpc:=Pat.closed p
 have hev:(mapE Vr.enc vs).length=vs.length:=zq ..
 generalize mapE Vr.enc vs=evs at *
 obtain ⟨pO,pA,pT,pV,pS,pN,pCo,pCa,pCv,pCf,pCk,pXk,pXn,pXt,hx⟩:=Pat.form p
 rw [hx] at hp p1 kpc
 injection hp with hp
 subst hp
 obtain ⟨R,hR⟩:∃ R,R=if p.chk≠0 then p.chk else if p.nVars≠vs.length then 15 else 0:=⟨_,rfl⟩
 rw [← hR]
 obtain ⟨nv,hnv⟩:∃ z:Int,z=p.nVars:=⟨_,rfl⟩
 have hq:p.nVars≠vs.length↔nv≠(vs.length:Int):=by omega
 rw [← hnv] at p1
 generalize p.chk=ck at *
 generalize (p.nScs:Int)=ns at *
 refine zr ?_;unhygienic intros
 by_cases h1:ck=0
 · have q1:iEq ck 0=true:=by simp only [ee];simpa using h1
   rw [if_neg (by omega)] at hR
   by_cases h2:nv=vs.length
   · have q2:iNe nv (lenA evs)=false:=by simp only [ee];rw [hev];simpa using h2
     rw [if_neg (by rw [hq];omega)] at hR
     rw [hR]
     subst h1
     refine fB T52 [.t 2] ?_
     refine Aq ?_
     refine oPA p1 ?_
     have fz:=And.intro q1 q2
     refine Cq ?_
     refine oC (fun c1=>?_) fun c1=>?_
     ·
      simp [ee] at c1
     simp [ee] at c1
     refine Aq ?_
     exact fV
   have q2:iNe nv (lenA evs)=true:=by simp only [ee];rw [hev];simpa using h2
   rw [if_pos (by rw [hq];exact h2)] at hR
   rw [hR]
   refine fB T52 [.t 2] ?_
   refine Aq ?_
   refine oPA p1 ?_
   have fz:=And.intro q1 q2
   refine Cq ?_
   refine oC (fun c1=>?_) fun c1=>?_
   ·
    simp [ee] at c1
    refine Aq ?_
    exact fV
   simp [ee] at c1
 have q1:iEq ck 0=false:=by simp only [ee];simpa using h1
 rw [if_pos h1] at hR
 rw [hR]
 refine fB T52 [.t 2] ?_
 refine Aq ?_
 refine oPA p1 ?_
 have fz:=q1
 refine Cq ?_
 refine oC (fun c1=>?_) fun c1=>?_
 ·
  simp [ee] at c1
 simp [ee] at c1
 refine Aq ?_
 exact fV
theorem P_Pattern2 (p:Pat) (ts:List Sch) (vs:List Vr) {cs:List AV} (hp:p.enc=.agg cs) (hs:p.Sm) (hts:xW ts) (hvs:vs.length<1048577) (hv:∀ q∈p.nodes,q.op=0∨q.op=5→0≤q.var∧q.var<vs.length) :
 PCall EL 54 [.iptr [.isl 2 (mapE Sch.enc ts)],.iptr [.isl 2 (mapE Vr.enc vs)],.iptr cs] (.tup [int (yg (ndE ts vs) p.nodes),int (zm (ndE ts vs) p.nodes)]):=by
 have p1:=(C_node ts vs hts hvs p hs hv 0 (by omega) (by have:=hs.1;omega)).toL
 have kts:=Sch.closedI ts
 have kvs:=Vr.closedI vs
 have kpc:=Pat.closed p
 have hz:=idxE_zero (ndE ts vs) p.nodes
 generalize mapE Sch.enc ts=ets at *
 generalize mapE Vr.enc vs=evs at *
 generalize zm (ndE ts vs) p.nodes=e1 at *
 generalize yg (ndE ts vs) p.nodes=e2 at *
 generalize (p.cnt:Int)=e3 at *
 obtain ⟨pO,pA,pT,pV,pS,pN,pCo,pCa,pCv,pCf,pCk,pXk,pXn,pXt,hx⟩:=Pat.form p
 rw [hx] at hp p1 kpc
 injection hp with hp
 subst hp
 refine zr ?_;unhygienic intros
 refine fB T54 [.t 3,.t 4] ?_
 refine Aq ?_
 refine on_call rfl rfl rfl enters___typecheck_walker__node p1 ?_
 rintro v1 H1 (⟨h0,rfl,rfl⟩ | ⟨h0,rfl,m,rfl⟩)
 · rw [hz h0,h0]
   generalize 0+e3=e4 at *
   refine Aq ?_
   exact fE [.gone]
 have e5:0+e2=e2:=by omega
 rw [e5]
 refine Aq ?_
 exact fE [.gone]
theorem P_Pattern3 (p:Pat) {cs:List AV} (hp:p.enc=.agg cs) (hs:p.Sm):PCall EL 56 [.iptr cs] (.tup [int p.scI,int p.scE]):=by
 have p1:=(P_scCheck p hs).toL
 have kpc:=Pat.closed p
 generalize p.scI=e1 at *
 generalize p.scE=e2 at *
 obtain ⟨pO,pA,pT,pV,pS,pN,pCo,pCa,pCv,pCf,pCk,pXk,pXn,pXt,hx⟩:=Pat.form p
 rw [hx] at hp p1 kpc
 injection hp with hp
 subst hp
 refine zr ?_;unhygienic intros
 refine fB T56 [.t 1,.t 2] ?_
 refine Aq ?_
 refine oPA p1 ?_
 refine Aq ?_
 exact fE []
theorem cfold_in : ∀ (n:Nat) (d:List Pat),d.length=n→(zC d).2.2=true→∀ q∈d,zD q.op=true→0≤q.var∧q.var<(zC d).1
 | 0,d,h,_,q,hq,_=>by
  rw [List.length_eq_zero_iff.1 h] at hq;cases hq
 | n+1,d,h,hb,q,hq,ht=>by
  have hne:d≠[]:=by rintro rfl;simp at h
  obtain ⟨d',x,rfl⟩:∃ d' x,d=d'++[x]:=⟨d.dropLast,d.getLast hne,(List.dropLast_concat_getLast hne).symm⟩
  rw [xY] at hb ⊢
  have hbd:=cfold_bd d'
  have ih:=cfold_in n d' (by simpa using h)
  generalize zC d'=s at *
  obtain ⟨s1,s2,s3⟩:=s
  simp only [wB,Bool.and_eq_true,Bool.or_eq_true,Bool.not_eq_true',beq_iff_eq] at hb ⊢
  rcases List.mem_append.1 hq with hq | hq
  · have:=ih hb.1.1 q hq ht
    dsimp only at this
    split<;>omega
  rw [List.mem_singleton.1 hq] at ht ⊢
  have h2:=hb.1.2.resolve_left (by rw [ht];decide)
  rw [if_pos ht]
  dsimp only at hbd
  omega
theorem vars_in {p:Pat} {vs:List Vr} (h:p.chk=0) (hn:p.nVars=vs.length):∀ q∈p.nodes,q.op=0∨q.op=5→0≤q.var∧q.var<vs.length:=fun q hq ho=>by
 have:=cfold_in _ p.nodes rfl (vm h).2 q hq (by rw [zD];simp;omega)
 rw [Pat.nVars,if_pos h] at hn
 omega
noncomputable def uT (p:Pat) (vs:List Vr):Int:=if p.chk≠0 then p.chk else if p.nVars≠vs.length then 15 else 0
noncomputable def tpE (ts:List Sch) (vs:List Vr) (p:Pat):Int:=if wm ts vs≠0 then wm ts vs else if uT p vs≠0 then uT p vs else if zm (ndE ts vs) p.nodes≠0 then zm (ndE ts vs) p.nodes else p.scE
noncomputable def tpI (ts:List Sch) (vs:List Vr) (p:Pat):Int:=if wm ts vs≠0 then 0 else if uT p vs≠0 then 0 else if zm (ndE ts vs) p.nodes≠0 then yg (ndE ts vs) p.nodes else p.scI
theorem scI_zero {p:Pat} (h:p.scE=0):p.scI=0:=by
 unfold Pat.scE at h
 unfold Pat.scI
 split
 · rfl
 rename_i h2
 rw [if_neg h2] at h
 exact idxE_zero _ _ h
theorem cntE_in {p:Pat} {vs:List Vr} (h:uT p vs=0):∀ q∈p.nodes,q.op=0∨q.op=5→0≤q.var∧q.var<vs.length:=by
 unfold uT at h
 split at h
 · rename_i h2;exact absurd h h2
 rename_i h2
 split at h
 · cases h
 rename_i h3
 exact vars_in (by simpa using h2) (by simpa using h3)
theorem P_tcPattern (ts:List Sch) (vs:List Vr) (p:Pat) (hs:p.Sm) (hts:xW ts) (hvs:vs.length<1048577) (hvn:∀ v∈vs,v.nm.length<1048577) :
 PCall EL 17 [.isl 2 (mapE Sch.enc ts),.isl 2 (mapE Vr.enc vs),p.enc] (.tup [int (tpI ts vs p),int (tpE ts vs p)]):=by
 obtain ⟨cs,hp⟩:=Pat.some_cells p
 have kts:=Sch.closedI ts
 have kvs:=Vr.closedI vs
 have kpc:=Pat.closed p
 have q1:=xw (by simp [AV.closedL,zd,kts]) (P_declared1 ts hts)
 have q2:=xw (by simp [AV.closedL,zd,kts,kvs]) (P_declared2 ts vs hts hvs hvn)
 have kcs:AV.closedL cs=true:=by rw [hp] at kpc;exact kpc
 have q3:=xw (by simp [AV.closedL,zd,kcs,kvs]) (P_Pattern1 p vs hp hs hvs)
 have q4:uT p vs=0→_:=fun h=>P_Pattern2 p ts vs hp hs hts hvs (cntE_in h)
 have q5:=P_Pattern3 p hp hs
 have e0:(if p.chk≠0 then p.chk else if p.nVars≠vs.length then 15 else 0)=uT p vs:=rfl
 rw [e0] at q3
 have hl:∀ l:List Prt,l=[⟨98,[.iptr [.fn 95 [.iptr [.isl 2 (mapE Sch.enc ts)]]]],0,z7 ts⟩,⟨98,[.iptr [.fn 96 [.iptr [.isl 2 (mapE Sch.enc ts)],.iptr [.isl 2 (mapE Vr.enc vs)]]]],0,wl ts vs⟩,⟨98,[.iptr [.fn 52 [.iptr cs,.iptr [.isl 2 (mapE Vr.enc vs)]]]],0,uT p vs⟩,⟨54,[.iptr [.isl 2 (mapE Sch.enc ts)],.iptr [.isl 2 (mapE Vr.enc vs)],.iptr cs],yg (ndE ts vs) p.nodes,zm (ndE ts vs) p.nodes⟩,⟨56,[.iptr cs],p.scI,p.scE⟩]→u0 l=tpI ts vs p∧zm Prt.e l=tpE ts vs p:=by
  rintro l rfl
  have z1:=idxE_zero (ndE ts vs) p.nodes
  have z2:=@scI_zero p
  clear q1 q2 q3 q4 q5 e0
  simp only [u0,zm,tpI,tpE,wm]
  by_cases b1:z7 ts=0<;>by_cases b2:wl ts vs=0<;>by_cases b3:uT p vs=0<;>by_cases b4:zm (ndE ts vs) p.nodes=0<;>by_cases b5:p.scE=0<;>simp_all
 obtain ⟨l,hle⟩:∃ l,l=[⟨98,[.iptr [.fn 95 [.iptr [.isl 2 (mapE Sch.enc ts)]]]],0,z7 ts⟩,⟨98,[.iptr [.fn 96 [.iptr [.isl 2 (mapE Sch.enc ts)],.iptr [.isl 2 (mapE Vr.enc vs)]]]],0,wl ts vs⟩,⟨98,[.iptr [.fn 52 [.iptr cs,.iptr [.isl 2 (mapE Vr.enc vs)]]]],0,uT p vs⟩,⟨54,[.iptr [.isl 2 (mapE Sch.enc ts)],.iptr [.isl 2 (mapE Vr.enc vs)],.iptr cs],yg (ndE ts vs) p.nodes,zm (ndE ts vs) p.nodes⟩,(⟨56,[.iptr cs],p.scI,p.scE⟩:Prt)]:=⟨_,rfl⟩
 have qf:=P_firstL l (by rw [hle];simp) (by rw [hle];simp [AV.closedL,zA,zd,kts,kvs,kcs]) (by
  rw [hle]
  exact ⟨q1,fun _=>⟨q2,fun _=>⟨q3,fun h=>⟨q4 h,fun _=>⟨q5,fun _=>trivial⟩⟩⟩⟩⟩)
 rw [(hl l hle).1,(hl l hle).2,hle,zk] at qf
 simp only [List.map_cons,List.map_nil,Prt.enc] at qf
 clear hl hle q1 q2 q3 q4 q5 e0
 have od:=O_declared ts vs
 generalize mapE Sch.enc ts=ets at *
 generalize mapE Vr.enc vs=evs at *
 generalize tpI ts vs p=r1 at *
 generalize tpE ts vs p=r2 at *
 have qw:=xG 52 [.iptr cs,.iptr [.isl 2 evs]] (by simp [AV.closedL,zd,kcs,kvs])
 obtain ⟨pO,pA,pT,pV,pS,pN,pCo,pCa,pCv,pCf,pCk,pXk,pXn,pXt,hx⟩:=Pat.form p
 rw [hx] at hp kpc ⊢
 injection hp with hp
 subst hp
 have kpA:(AV.isl 14 pA).closed=true:=by have:=kpc;simp [AV.closed,AV.closedL] at this ⊢;exact this.1
 have kpC:(AV.isl 8 pCa).closed=true:=by have:=kpc;simp [AV.closed,AV.closedL] at this ⊢;exact this.2
 have k1:AV.closedL [.isl 2 ets]=true:=by simp [AV.closedL,kts]
 have k2:AV.closedL [.isl 2 evs]=true:=by simp [AV.closedL,kvs]
 refine zr ?_;unhygienic intros
 refine fB T17 [.t 6,.t 7] ?_
 refine goA 0 ?_
 refine xu (F':=[(8,.isl 2 ets),(9,.isl 2 evs),(3,.iptr [.isl 2 ets]),(4,.iptr [.isl 2 evs]),(5,.iptr [int pO,.isl 14 pA,int pT,int pV,int pS,int pN,int pCo,.isl 8 pCa,int pCv,int pCf,int pCk,int pXk,int pXn,str pXt])]) (H':=[]) ?_ ?_
 · exact (zF [.icells ([AV.isl 2 ets]),.icells ([AV.isl 2 evs]),.icells ([int pO,AV.isl 14 pA,int pT,int pV,int pS,int pN,int pCo,AV.isl 8 pCa,int pCv,int pCf,int pCk,int pXk,int pXn,str pXt])] [] ⟨⟨_,rfl,(zp _ k1).symm⟩,⟨_,rfl,(zp _ k2).symm⟩,⟨_,rfl,(zp _ kcs).symm⟩,trivial⟩ trivial ⟨.cl kts,.cl kvs,.refl _,.refl _,.refl _,trivial⟩)
 refine on_ocall (args:=[.isl 2 ets,.isl 2 evs]) (v':=.sl 0 1 0 2) (H':=[.arr 1 [.agg [.fn 98 [.iptr [.fn 95 [.iptr [.isl 2 ets]]]]],.agg [.fn 98 [.iptr [.fn 96 [.iptr [.isl 2 ets],.iptr [.isl 2 evs]]]]]]]) rfl rfl rfl od (by simp [AV.closedL,kts,kvs]) rfl ?_ ?_
 · have c1:=zp (sh 0) k1
   have c2:=zp (sh 0) k2
   show [AObj.arr 1 [AV.agg [.fn _ [.iptr [.fn _ [.iptr (AV.subL _ [.isl 2 ets])]]]],AV.agg [.fn _ [.iptr [.fn _ [.iptr (AV.subL _ [.isl 2 ets]),.iptr (AV.subL _ [.isl 2 evs])]]]]]]=_
   rw [zp _ k1,zp _ k2]
 have hcat:catA (dropA [AV.agg [.fn 98 [.iptr [.fn 95 [.iptr [.isl 2 ets]]]]],AV.agg [.fn 98 [.iptr [.fn 96 [.iptr [.isl 2 ets],.iptr [.isl 2 evs]]]]]] 0) (partA [AV.agg [.fn 98 [.iptr [.fn 52 [.iptr [int pO,.isl 14 pA,int pT,int pV,int pS,int pN,int pCo,.isl 8 pCa,int pCv,int pCf,int pCk,int pXk,int pXn,str pXt],.iptr [.isl 2 evs]]]]],AV.agg [.fn 54 [.iptr [.isl 2 ets],.iptr [.isl 2 evs],.iptr [int pO,.isl 14 pA,int pT,int pV,int pS,int pN,int pCo,.isl 8 pCa,int pCv,int pCf,int pCk,int pXk,int pXn,str pXt]]],AV.agg [.fn 56 [.iptr [int pO,.isl 14 pA,int pT,int pV,int pS,int pN,int pCo,.isl 8 pCa,int pCv,int pCf,int pCk,int pXk,int pXn,str pXt]]]] 0 3)=[AV.agg [.fn 98 [.iptr [.fn 95 [.iptr [.isl 2 ets]]]]],AV.agg [.fn 98 [.iptr [.fn 96 [.iptr [.isl 2 ets],.iptr [.isl 2 evs]]]]],AV.agg [.fn 98 [.iptr [.fn 52 [.iptr [int pO,.isl 14 pA,int pT,int pV,int pS,int pN,int pCo,.isl 8 pCa,int pCv,int pCf,int pCk,int pXk,int pXn,str pXt],.iptr [.isl 2 evs]]]]],AV.agg [.fn 54 [.iptr [.isl 2 ets],.iptr [.isl 2 evs],.iptr [int pO,.isl 14 pA,int pT,int pV,int pS,int pN,int pCo,.isl 8 pCa,int pCv,int pCf,int pCk,int pXk,int pXn,str pXt]]],AV.agg [.fn 56 [.iptr [int pO,.isl 14 pA,int pT,int pV,int pS,int pN,int pCo,.isl 8 pCa,int pCv,int pCf,int pCk,int pXk,int pXn,str pXt]]]]:=by simp only [ee];rfl
 have hlen:addN 2 (lenN (partA [AV.agg [.fn 98 [.iptr [.fn 52 [.iptr [int pO,.isl 14 pA,int pT,int pV,int pS,int pN,int pCo,.isl 8 pCa,int pCv,int pCf,int pCk,int pXk,int pXn,str pXt],.iptr [.isl 2 evs]]]]],AV.agg [.fn 54 [.iptr [.isl 2 ets],.iptr [.isl 2 evs],.iptr [int pO,.isl 14 pA,int pT,int pV,int pS,int pN,int pCo,.isl 8 pCa,int pCv,int pCf,int pCk,int pXk,int pXn,str pXt]]],AV.agg [.fn 56 [.iptr [int pO,.isl 14 pA,int pT,int pV,int pS,int pN,int pCo,.isl 8 pCa,int pCv,int pCf,int pCk,int pXk,int pXn,str pXt]]]] 0 3))=5:=by simp only [ee];rfl
 have k5:AV.closedL [AV.agg [.fn 98 [.iptr [.fn 95 [.iptr [.isl 2 ets]]]]],AV.agg [.fn 98 [.iptr [.fn 96 [.iptr [.isl 2 ets],.iptr [.isl 2 evs]]]]],AV.agg [.fn 98 [.iptr [.fn 52 [.iptr [int pO,.isl 14 pA,int pT,int pV,int pS,int pN,int pCo,.isl 8 pCa,int pCv,int pCf,int pCk,int pXk,int pXn,str pXt],.iptr [.isl 2 evs]]]]],AV.agg [.fn 54 [.iptr [.isl 2 ets],.iptr [.isl 2 evs],.iptr [int pO,.isl 14 pA,int pT,int pV,int pS,int pN,int pCo,.isl 8 pCa,int pCv,int pCf,int pCk,int pXk,int pXn,str pXt]]],AV.agg [.fn 56 [.iptr [int pO,.isl 14 pA,int pT,int pV,int pS,int pN,int pCo,.isl 8 pCa,int pCv,int pCf,int pCk,int pXk,int pXn,str pXt]]]]=true:=by simp [AV.closedL,wb,zA,zd,xb,kts,kvs,kpA,kpC]
 refine Aq ?_
 refine oPA qw ?_
 have fz:=And.intro hcat hlen
 refine goC 60 ?_
 refine yp rfl rfl qf rfl ⟨[.gone,.gone,.isl 1 ([AV.agg [AV.fn 98 [AV.iptr [AV.fn 95 [AV.iptr [AV.isl 2 ets]]]]],AV.agg [AV.fn 98 [AV.iptr [AV.fn 96 [AV.iptr [AV.isl 2 ets],AV.iptr [AV.isl 2 evs]]]]],AV.agg [AV.fn 98 [AV.iptr [AV.fn 52 [AV.iptr [int pO,AV.isl 14 pA,int pT,int pV,int pS,int pN,int pCo,AV.isl 8 pCa,int pCv,int pCf,int pCk,int pXk,int pXn,str pXt],AV.iptr [AV.isl 2 evs]]]]],AV.agg [AV.fn 54 [AV.iptr [AV.isl 2 ets],AV.iptr [AV.isl 2 evs],AV.iptr [int pO,AV.isl 14 pA,int pT,int pV,int pS,int pN,int pCo,AV.isl 8 pCa,int pCv,int pCf,int pCk,int pXk,int pXn,str pXt]]],AV.agg [AV.fn 56 [AV.iptr [int pO,AV.isl 14 pA,int pT,int pV,int pS,int pN,int pCo,AV.isl 8 pCa,int pCv,int pCf,int pCk,int pXk,int pXn,str pXt]]]])],⟨trivial,trivial,⟨_,rfl,(zp _ k5).symm⟩,trivial⟩,⟨.refl _,trivial⟩⟩ ?_
 refine Aq ?_
 exact fE [.gone,.gone,.gone]
theorem sch_at {ts:List Sch} {i:Int} (h0:0≤i) (h1:i<ts.length):(mapE Sch.enc ts).getD i.toNat .undef=.agg [str (ba (ts.getD i.toNat ⟨[],[]⟩).nm),.isl 2 (mapE Fld.enc (ts.getD i.toNat ⟨[],[]⟩).fs)]:=by
 obtain ⟨d,x,r,e1,e2,_⟩:=xT (l:=ts) (n:=i.toNat) (by omega)
 rw [e1,← e2,zk,List.map_append,List.map_cons]
 simp [Sch.enc_eq]
theorem fld_at {fs:List Fld} {i:Int} (h0:0≤i) (h1:i<fs.length):(mapE Fld.enc fs).getD i.toNat .undef=.agg [str (ba (fs.getD i.toNat ⟨[],0⟩).nm),int (fs.getD i.toNat ⟨[],0⟩).kd]:=by
 obtain ⟨d,x,r,e1,e2,_⟩:=xT (l:=fs) (n:=i.toNat) (by omega)
 rw [e1,← e2,zk,List.map_append,List.map_cons]
 simp [Fld.enc_eq]
theorem fs_len {ts:List Sch} (hts:xW ts) (i:Int):(ts.getD i.toNat ⟨[],[]⟩).fs.length<1048577:=by
 rw [List.getD_eq_getElem?_getD]
 cases h:ts[i.toNat]? with
 | none=>simp
 | some s=>exact hts.fs s (List.mem_of_getElem? h)
theorem P_ref16Key (ts:List Sch) (x:Qy) (hts:xW ts) (hvs:x.vs.length<1048577) (hvn:∀ v∈x.vs,v.nm.length<1048577) (hk:x.key.length<1048577) :
 PCall EE 20 [.isl 2 (mapE Sch.enc ts),x.enc] (int (if wm ts x.vs≠0 then wm ts x.vs else uu ts x.vs x.key)):=by
 have p1:=P_refvariables ts x.vs hts hvs hvn
 have pu:=fun i=>P_refuses x.vs i hvs
 obtain ⟨R,hR⟩:∃ R,R=if wm ts x.vs≠0 then wm ts x.vs else uu ts x.vs x.key:=⟨_,rfl⟩
 rw [← hR]
 obtain ⟨pO,pA,pT,pV,pS,pN,pCo,pCa,pCv,pCf,pCk,pXk,pXn,pXt,hx,-,kpA,kpC⟩:=Qy.form x
 rw [hx]
 have kts:=Sch.closedI ts
 have kvs:=Vr.closedI x.vs
 have krs:=Ex.closedI x.rets
 have kks:=zx x.key
 have hel:(mapE Sch.enc ts).length=ts.length:=zq ..
 have hkl:(mapE int x.key).length=x.key.length:=zq ..
 have hsa:=fun i=>@sch_at ts i
 have hfl:=fs_len hts
 have htl:=hts.len
 generalize mapE Ex.enc x.rets=rs at *
 generalize hvv:mapE Vr.enc x.vs=evs at *
 generalize mapE Sch.enc ts=ets at *
 obtain ⟨de,hde⟩:∃ z,z=wm ts x.vs:=⟨_,rfl⟩
 rw [← hde] at p1 hR
 generalize ba x.nm=qn at *
 generalize hkey:x.key=key at *
 generalize x.vs=vs at *
 generalize hes:mapE int key=es at *
 clear hx hde hvv hkey
 rw [uu] at hR
 refine zr ?_;unhygienic intros
 have n0:iNe 0 0=false:=by simp only [ee];rfl
 have n1:bNot true=false:=by simp only [ee];rfl
 have n2:bNot false=true:=by simp only [ee];rfl
 refine fB T20 [.t 4] ?_
 by_cases h1:de=0
 rotate_left
 · have q1:iNe de 0=true:=by simp only [ee];simpa using h1
   rw [hR,if_pos h1]
   clear pu hsa
   refine Aq ?_
   refine oPA p1 ?_
   have fz:=q1
   refine Cq ?_
   refine Aq ?_
   exact fV
 rw [if_neg (by omega)] at hR
 subst h1
 by_cases h2:key=[]
 · have q2:iEq (lenA es) 0=true:=by simp only [ee];rw [hkl];simp [h2]
   rw [hR,if_pos h2]
   clear pu hsa
   refine Aq ?_
   refine oPA p1 ?_
   have fz:=And.intro n0 q2
   refine Cq ?_
   refine Cr ?_
   refine Aq ?_
   exact fV
 have q2:iEq (lenA es) 0=false:=by simp only [ee];rw [hkl];simpa using h2
 rw [if_neg h2] at hR
 by_cases h3:key.length=ts.length
 rotate_left
 · have q3:iNe (lenA es) (lenA ets)=true:=by simp only [ee];rw [hkl,hel];simp;omega
   rw [hR,if_pos h3]
   clear pu hsa
   refine Aq ?_
   refine oPA p1 ?_
   have fz:=And.intro n0 (And.intro q2 q3)
   refine Cq ?_
   refine Cr ?_
   refine Cr ?_
   refine Aq ?_
   exact fV
 have q3:iNe (lenA es) (lenA ets)=false:=by simp only [ee];rw [hkl,hel];simp;omega
 rw [if_neg (by omega)] at hR
 refine Aq ?_
 refine oPA p1 ?_
 have fz:=And.intro n0 (And.intro q2 q3)
 refine Cq ?_
 refine Cr ?_
 refine Cr ?_
 refine Cr ?_
 refine Aq ?_
 refine zf (ι:=List Int × List Int × Int × Int) (fun p=>([(7,int p.2.2.1),(6,int p.2.2.2),(3,.ptr 0 0),(0,.isl 2 ets)],[.cells [str qn,.isl 2 evs,.isl 1 es,int pO,.isl 14 pA,int pT,int pV,int pS,int pN,int pCo,.isl 8 pCa,int pCv,int pCf,int pCk,int pXk,int pXn,str pXt,.isl 8 rs]])) (fun p=>key=p.1++p.2.1∧p.2.2.1=p.1.length∧R=tT ts vs p.2.2.1 p.2.2.2 p.2.1) (fun p=>p.2.1.length) ([],key,0,-1) ⟨rfl,rfl,hR⟩ ?_ ?_
 · exact (eS [.to 0] [some 0])
 rintro ⟨d,r,i,kd⟩ ⟨g1,gi,gR⟩
 dsimp only at g1 gi gR ⊢
 clear hR
 cases r with
 | nil =>
  have L1:=zu g1
  try simp only [List.length] at L1
  have hc:iLt i (lenA ets)=false:=by simp only [ee];simp;omega
  rw [gR,tT]
  clear pu hsa
  have fz:=hc
  refine Cq ?_
  refine Aq ?_
  refine zo ?_
  refine Aq ?_
  exact fV
 | cons k r =>
  have L1:=zu g1
  try simp only [List.length] at L1
  have hc:iLt i (lenA ets)=true:=by simp only [ee];simp;omega
  have hat:=zP e_atA hes g1 gi
  have hi2:iAdd .i64 i 1=((d++[k]).length:Int):=by rw [List.length_append];exact zJ e_iAdd gi (by omega)
  have hi3:i+1=iAdd .i64 i 1:=by rw [hi2,gi];simp
  have hib:0≤i∧i<lenA es:=by simp only [ee];omega
  have hib2:0≤i∧i<lenA ets:=by simp only [ee];omega
  rw [tT,hi3] at gR
  have hs:=hsa i (by omega) (by omega)
  have hs:atA ets i=.agg [str (ba (ts.getD i.toNat ⟨[],[]⟩).nm),.isl 2 (mapE Fld.enc (ts.getD i.toNat ⟨[],[]⟩).fs)]:=by simp only [ee];exact hs
  have pu:=pu i
  have hfl:=hfl i
  clear hsa
  generalize ts.getD i.toNat ⟨[],[]⟩=s at *
  have hfe:(mapE Fld.enc s.fs).length=s.fs.length:=zq ..
  have kfs:=Fld.closedI s.fs
  have hfa:=fun a b=>@fld_at s.fs k a b
  generalize mapE Fld.enc s.fs=fes at *
  generalize ba s.nm=snm at *
  generalize uU vs i=u at *
  generalize (s.fs.getD k.toNat ⟨[],0⟩).kd=fk at *
  generalize ba (s.fs.getD k.toNat ⟨[],0⟩).nm=fnm at *
  cases u with
  | false =>
   rw [if_pos rfl] at gR
   clear hfa
   by_cases hm:k = -1
   · have q4:iNe k (-1)=false:=by simp only [ee];simpa using hm
     rw [if_neg (by omega)] at gR
     have fz:=And.intro hc (And.intro hat (And.intro n2 q4))
     refine Cq ?_
     refine Cr ?_
     refine oPA pu ?_
     refine Cq ?_
     refine Cr ?_
     refine Aq ?_
     refine zw (d++[k],r,iAdd .i64 i 1,kd) ⟨by rw [g1];simp,hi2,gR⟩ (by simp) (eS [.to 0] [some 0])
   have q4:iNe k (-1)=true:=by simp only [ee];simpa using hm
   rw [gR,if_pos hm]
   have fz:=And.intro hc (And.intro hat (And.intro n2 q4))
   refine Cq ?_
   refine Cr ?_
   refine oPA pu ?_
   refine Cq ?_
   refine Cr ?_
   refine Aq ?_
   refine zl ?_
   refine Aq ?_
   exact fV
  | true =>
  rw [if_neg (by decide)] at gR
  by_cases k0:k<0
  · have q4:iLt k 0=true:=by simp only [ee];simpa using k0
    rw [gR,if_pos (.inl k0)]
    clear hfa
    have fz:=And.intro hc (And.intro hat (And.intro n1 (And.intro hs q4)))
    refine Cq ?_
    refine Cr ?_
    refine oPA pu ?_
    refine Cq ?_
    refine Cr ?_
    refine oC (fun c1=>?_) fun c1=>?_
    ·
     simp [ee] at c1
     refine Aq ?_
     refine zl ?_
     refine Aq ?_
     exact fV
    simp [ee] at c1
  have q4:iLt k 0=false:=by simp only [ee];simpa using k0
  by_cases k1:(s.fs.length:Int)≤k
  · have q5:iLe (lenA fes) k=true:=by simp only [ee];rw [hfe];simpa using k1
    rw [gR,if_pos (.inr k1)]
    clear hfa
    have fz:=And.intro hc (And.intro hat (And.intro n1 (And.intro hs (And.intro q4 q5))))
    refine Cq ?_
    refine Cr ?_
    refine oPA pu ?_
    refine Cq ?_
    refine Cr ?_
    refine oC (fun c1=>?_) fun c1=>?_
    ·
     simp [ee] at c1
     refine Aq ?_
     refine zl ?_
     refine Aq ?_
     exact fV
    simp [ee] at c1
  have q5:iLe (lenA fes) k=false:=by simp only [ee];rw [hfe];simpa using k1
  rw [if_neg (by omega)] at gR
  have hfa:=hfa (by omega) (by omega)
  have hfa:atA fes k=.agg [str fnm,int fk]:=by simp only [ee];exact hfa
  have hkb:0≤k∧k<lenA fes:=by simp only [ee];omega
  by_cases d0:kd<0
  · have q6:iLt kd 0=true:=by simp only [ee];simpa using d0
    have q7:iNe fk fk=false:=by simp only [ee];simp
    rw [if_neg (by omega)] at gR
    have fz:=And.intro hc (And.intro hat (And.intro n1 (And.intro hs (And.intro hfa (And.intro q4 (And.intro q5 (And.intro q6 q7)))))))
    refine Cq ?_
    refine Cr ?_
    refine oPA pu ?_
    refine Cq ?_
    refine Cr ?_
    refine oC (fun c1=>?_) fun c1=>?_
    ·
     simp [ee] at c1
    simp [ee] at c1
    refine Cq ?_
    refine Cr ?_
    refine Cq ?_
    refine Aq ?_
    refine zw (d++[k],r,iAdd .i64 i 1,fk) ⟨by rw [g1];simp,hi2,gR⟩ (by simp) (eS [.to 0] [some 0])
  have q6:iLt kd 0=false:=by simp only [ee];simpa using d0
  by_cases d1:fk=kd
  · have q7:iNe fk kd=false:=by simp only [ee];simpa using d1
    rw [if_neg (by omega),d1] at gR
    have fz:=And.intro hc (And.intro hat (And.intro n1 (And.intro hs (And.intro hfa (And.intro q4 (And.intro q5 (And.intro q6 q7)))))))
    refine Cq ?_
    refine Cr ?_
    refine oPA pu ?_
    refine Cq ?_
    refine Cr ?_
    refine oC (fun c1=>?_) fun c1=>?_
    ·
     simp [ee] at c1
    simp [ee] at c1
    refine Cq ?_
    refine Cr ?_
    refine Aq ?_
    refine zw (d++[k],r,iAdd .i64 i 1,kd) ⟨by rw [g1];simp,hi2,gR⟩ (by simp) (eS [.to 0] [some 0])
  have q7:iNe fk kd=true:=by simp only [ee];simpa using d1
  rw [gR,if_pos ⟨by omega,d1⟩]
  have fz:=And.intro hc (And.intro hat (And.intro n1 (And.intro hs (And.intro hfa (And.intro q4 (And.intro q5 (And.intro q6 q7)))))))
  refine Cq ?_
  refine Cr ?_
  refine oPA pu ?_
  refine Cq ?_
  refine Cr ?_
  refine oC (fun c1=>?_) fun c1=>?_
  ·
   simp [ee] at c1
  simp [ee] at c1
  refine Cq ?_
  refine Cr ?_
  refine Aq ?_
  refine zl ?_
  refine Aq ?_
  exact fV
def vQ (l:List Int):List (AV × AV):=l.map fun n=>(int n,bool true)
def tS (l:List Int) (s:Int):List Int:=if s∈l then l else l++[s]
theorem insI_mem (l:List Int) (s t:Int):t∈tS l s↔t∈l∨t=s:=by
 unfold tS
 split
 · rename_i h
   constructor
   · exact .inl
   rintro (h2 | rfl)
   · exact h2
   exact h
 simp
theorem entsI_ok (l:List Int) (s:Int):mOkL false (vQ l) (int s)=true:=by
 unfold mOkL vQ
 rw [List.all_eq_true]
 intro p hp
 obtain ⟨n,_,rfl⟩:=List.mem_map.1 hp
 rfl
theorem mIs_int (n s:Int) (v:AV):mIs false (int s) (int n,v)=decide (n=s):=by
 show ((if false=false∧IntKind.i64=IntKind.i64 then some (s == n) else none) == some true)=_
 rw [if_pos ⟨rfl,rfl⟩]
 by_cases h:n=s
 · subst h;rw [decide_eq_true rfl,beq_self_eq_true];rfl
 rw [decide_eq_false h,show (s == n)=false by rw [beq_eq_false_iff_ne];exact Ne.symm h];rfl
theorem entsI_cl : ∀ l:List Int,y5 (vQ l)=true
 | []=>rfl
 | n :: l=>by
  have ih:=entsI_cl l
  rw [vQ] at ih
  rw [vQ,List.map_cons,y5,List.all_cons]
  exact ih
theorem entsI_get (s:Int):∀ l:List Int,mGetL false (vQ l) (int s) (bool false)=bool (decide (s∈l))
 | []=>rfl
 | n :: l=>by
  have ih:=entsI_get s l
  rw [vQ] at ih
  rw [vQ,List.map_cons,mGetL,mIs_int]
  by_cases h:n=s
  · subst h;simp
  rw [decide_eq_false h,if_neg (by decide),ih]
  simp [Ne.symm h]
theorem entsI_put (s:Int):∀ l:List Int,mPutL false (vQ l) (int s) (bool true)=vQ (tS l s)
 | []=>rfl
 | n :: l=>by
  have ih:=entsI_put s l
  rw [vQ] at ih
  rw [vQ,List.map_cons,mPutL,mIs_int]
  by_cases h:n=s
  · subst h
    rw [decide_eq_true rfl,if_pos rfl,tS,if_pos (by simp)];rfl
  rw [decide_eq_false h,if_neg (by decide),ih,tS,tS]
  by_cases h2:s∈l
  · rw [if_pos h2,if_pos (by simp [h2])];rfl
  rw [if_neg h2,if_neg (by simp [h2,Ne.symm h])];rfl
theorem P_key (ts:List Sch) (x:Qy) (hts:xW ts) (hvs:x.vs.length<1048577) (hk:x.key.length<1048577) :
 PCall EE 64 [.isl 2 (mapE Sch.enc ts),x.enc] (int (uu ts x.vs x.key)):=by
 obtain ⟨R,hR⟩:∃ R,R=uu ts x.vs x.key:=⟨_,rfl⟩
 rw [← hR]
 obtain ⟨pO,pA,pT,pV,pS,pN,pCo,pCa,pCv,pCf,pCk,pXk,pXn,pXt,hx,-,kpA,kpC⟩:=Qy.form x
 rw [hx]
 have kts:=Sch.closedI ts
 have kvs:=Vr.closedI x.vs
 have krs:=Ex.closedI x.rets
 have kks:=zx x.key
 have hel:(mapE Sch.enc ts).length=ts.length:=zq ..
 have hkl:(mapE int x.key).length=x.key.length:=zq ..
 have hevl:(mapE Vr.enc x.vs).length=x.vs.length:=zq ..
 have hsa:=fun i=>@sch_at ts i
 have hfl:=fs_len hts
 have htl:=hts.len
 generalize mapE Ex.enc x.rets=rs at *
 generalize mapE Sch.enc ts=ets at *
 generalize ba x.nm=qn at *
 generalize hkey:x.key=key at *
 generalize hvv:x.vs=vs at *
 generalize hes:mapE int key=es at *
 generalize hevs:mapE Vr.enc vs=evs at *
 clear hx hvv hkey
 rw [uu] at hR
 refine zr ?_;unhygienic intros
 have n1:bNot true=false:=by simp only [ee];rfl
 have n2:bNot false=true:=by simp only [ee];rfl
 refine fB T64 [.t 4] ?_
 by_cases h2:key=[]
 · have q2:iEq (lenA es) 0=true:=by simp only [ee];rw [hkl];simp [h2]
   rw [hR,if_pos h2]
   clear hsa
   have fz:=q2
   refine Cq ?_
   refine Aq ?_
   exact fV
 have q2:iEq (lenA es) 0=false:=by simp only [ee];rw [hkl];simpa using h2
 rw [if_neg h2] at hR
 by_cases h3:key.length=ts.length
 rotate_left
 · have q3:iNe (lenA es) (lenA ets)=true:=by simp only [ee];rw [hkl,hel];simp;omega
   rw [hR,if_pos h3]
   clear hsa
   have fz:=And.intro q2 q3
   refine Cq ?_
   refine Cr ?_
   refine Aq ?_
   exact fV
 have q3:iNe (lenA es) (lenA ets)=false:=by simp only [ee];rw [hkl,hel];simp;omega
 rw [if_neg (by omega)] at hR
 have fz:=And.intro q2 q3
 refine Cq ?_
 refine Cr ?_
 refine Cr ?_
 refine Aq ?_
 refine zf (ι:=List Vr × List Vr × Int × List Int × List (AV × AV)) (fun p=>([(26,int p.2.2.1),(25,int (lenA evs)),(24,.isl 2 evs),(5,.amap 1),(3,.ptr 0 0),(0,.isl 2 ets)],[.cells [str qn,.isl 2 evs,.isl 1 es,int pO,.isl 14 pA,int pT,int pV,int pS,int pN,int pCo,.isl 8 pCa,int pCv,int pCf,int pCk,int pXk,int pXn,str pXt,.isl 8 rs],.amap p.2.2.2.2])) (fun p=>vs=p.1++p.2.1∧p.2.2.1=p.1.length∧p.2.2.2.2=vQ p.2.2.2.1∧∀ t,uU p.1 t=decide (t∈p.2.2.2.1)) (fun p=>p.2.1.length) ([],vs,0,[],[]) ⟨rfl,rfl,rfl,fun _=>rfl⟩ ?_ ?_
 · have kcM:y5 []=true:=rfl
   exact (eS [.to 0,.to 1] [some 0,some 1])
 rintro ⟨d,r,i,l,m⟩ ⟨g1,gi,gm,gl⟩
 dsimp only at g1 gi gm gl ⊢
 have kcm:y5 m=true:=by rw [gm];exact entsI_cl _
 cases r with
 | cons v r =>
  have L1:=zu g1
  try simp only [List.length] at L1
  have hc:iLt i (lenA evs)=true:=yY e_iLt e_lenA (by omega)
  have hat:=zP e_atA hevs g1 gi
  rw [Vr.enc_eq] at hat
  have hi2:iAdd .i64 i 1=((d++[v]).length:Int):=by rw [List.length_append];exact zJ e_iAdd gi (by omega)
  have kok:mOk false m (int v.ty)=true:=by simp only [ee];rw [gm];exact entsI_ok _ _
  have kput:mPut false m (int v.ty) (bool true)=vQ (tS l v.ty):=by simp only [ee];rw [gm,entsI_put]
  have kcM:y5 (mPut false m (int v.ty) (bool true))=true:=by rw [kput];exact entsI_cl _
  have gl2:∀ t,uU (d++[v]) t=decide (t∈tS l v.ty):=fun t=>by
   have:=gl t
   unfold uU at this ⊢
   rw [List.any_append,this,Bool.eq_iff_iff]
   simp only [List.any_cons,List.any_nil,Bool.or_false,Bool.or_eq_true,decide_eq_true_eq,insI_mem]
   constructor<;>(rintro (h | h);exact .inl h;exact .inr h.symm)
  clear hR hsa gl
  generalize v.ty=ty at *
  generalize ba v.nm=nm at *
  have fz:=And.intro hc hat
  refine Cq ?_
  have fz:=And.intro hc (And.intro hat kok)
  refine Cr ?_
  refine Aq ?_
  refine zw (d++[v],r,iAdd .i64 i 1,tS l ty,mPut false m (int ty) (bool true)) ⟨by rw [g1];simp,hi2,kput,gl2⟩ (by simp) ?_
  exact (eS [.to 0,.to 1,.gone] [some 0,some 1])
 | nil =>
  have L1:=zu g1
  try simp only [List.length] at L1
  have hc:iLt i (lenA evs)=false:=yW e_iLt e_lenA (by omega)
  rw [List.append_nil] at g1
  rw [← g1] at gl
  have fz:=hc
  refine Cq ?_
  refine Aq ?_
  refine zo ?_
  refine Aq ?_
  refine zf (ι:=List Int × List Int × Int × Int) (fun p=>([(37,int p.2.2.1),(36,int (lenA es)),(35,.isl 1 es),(8,int p.2.2.2),(5,.amap 0),(0,.isl 2 ets)],[.amap m])) (fun p=>key=p.1++p.2.1∧p.2.2.1=p.1.length∧R=tT ts vs p.2.2.1 p.2.2.2 p.2.1) (fun p=>p.2.1.length) ([],key,0,-1) ⟨rfl,rfl,hR⟩ ?_ ?_
  · exact (eS [.gone,.to 0] [some 1])
  clear g1 gi L1 hc hR
  rintro ⟨d,r,i,kd⟩ ⟨g1,gi,gR⟩
  dsimp only at g1 gi gR ⊢
  cases r with
  | nil =>
   have L1:=zu g1
   try simp only [List.length] at L1
   have hc:iLt i (lenA es)=false:=yW e_iLt e_lenA (by omega)
   rw [gR,tT]
   clear hsa
   have fz:=hc
   refine Cq ?_
   refine Aq ?_
   refine zo ?_
   refine Aq ?_
   exact fV
  | cons k r =>
  have L1:=zu g1
  try simp only [List.length] at L1
  have hc:iLt i (lenA es)=true:=yY e_iLt e_lenA (by omega)
  have hat:=zP e_atA hes g1 gi
  have hi2:iAdd .i64 i 1=((d++[k]).length:Int):=by rw [List.length_append];exact zJ e_iAdd gi (by omega)
  have hi3:i+1=iAdd .i64 i 1:=by rw [hi2,gi];simp
  have hib:0≤i∧i<lenA es:=by simp only [ee];omega
  have hib2:0≤i∧i<lenA ets:=by simp only [ee];omega
  rw [tT,hi3] at gR
  have hs:=hsa i (by omega) (by omega)
  have hs:atA ets i=.agg [str (ba (ts.getD i.toNat ⟨[],[]⟩).nm),.isl 2 (mapE Fld.enc (ts.getD i.toNat ⟨[],[]⟩).fs)]:=by simp only [ee];exact hs
  have kok:mOk false m (int i)=true:=by simp only [ee];rw [gm];exact entsI_ok _ _
  have kget:mGet false m (int i) (bool false)=bool (uU vs i):=by simp only [ee];rw [gm,entsI_get,gl]
  have hfl:=hfl i
  clear hsa gl
  generalize ts.getD i.toNat ⟨[],[]⟩=s at *
  have hfe:(mapE Fld.enc s.fs).length=s.fs.length:=zq ..
  have kfs:=Fld.closedI s.fs
  have hfa:=fun a b=>@fld_at s.fs k a b
  generalize mapE Fld.enc s.fs=fes at *
  generalize ba s.nm=snm at *
  generalize uU vs i=u at *
  generalize (s.fs.getD k.toNat ⟨[],0⟩).kd=fk at *
  generalize ba (s.fs.getD k.toNat ⟨[],0⟩).nm=fnm at *
  cases u with
  | false =>
   rw [if_pos rfl] at gR
   clear hfa
   by_cases hm:k = -1
   · have q4:iNe k (-1)=false:=by simp only [ee];simpa using hm
     rw [if_neg (by omega)] at gR
     have fz:=And.intro hc (And.intro hat (And.intro kok (And.intro kget (And.intro n2 q4))))
     refine Cq ?_
     refine Cr ?_
     refine Cr ?_
     refine Aq ?_
     refine zw (d++[k],r,iAdd .i64 i 1,kd) ⟨by rw [g1];simp,hi2,gR⟩ (by simp) (eS [.to 0] [some 0])
   have q4:iNe k (-1)=true:=by simp only [ee];simpa using hm
   rw [gR,if_pos hm]
   have fz:=And.intro hc (And.intro hat (And.intro kok (And.intro kget (And.intro n2 q4))))
   refine Cq ?_
   refine Cr ?_
   refine Cr ?_
   refine Aq ?_
   refine zl ?_
   refine Aq ?_
   exact fV
  | true =>
  rw [if_neg (by decide)] at gR
  by_cases k0:k<0
  · have q4:iLt k 0=true:=by simp only [ee];simpa using k0
    rw [gR,if_pos (.inl k0)]
    clear hfa
    have fz:=And.intro hc (And.intro hat (And.intro kok (And.intro kget (And.intro n1 (And.intro hs q4)))))
    refine Cq ?_
    refine Cr ?_
    refine Cr ?_
    refine oC (fun c1=>?_) fun c1=>?_
    ·
     simp [ee] at c1
     refine Aq ?_
     refine zl ?_
     refine Aq ?_
     exact fV
    simp [ee] at c1
  have q4:iLt k 0=false:=by simp only [ee];simpa using k0
  by_cases k1:(s.fs.length:Int)≤k
  · have q5:iLe (lenA fes) k=true:=by simp only [ee];rw [hfe];simpa using k1
    rw [gR,if_pos (.inr k1)]
    clear hfa
    have fz:=And.intro hc (And.intro hat (And.intro kok (And.intro kget (And.intro n1 (And.intro hs (And.intro q4 q5))))))
    refine Cq ?_
    refine Cr ?_
    refine Cr ?_
    refine oC (fun c1=>?_) fun c1=>?_
    ·
     simp [ee] at c1
     refine Aq ?_
     refine zl ?_
     refine Aq ?_
     exact fV
    simp [ee] at c1
  have q5:iLe (lenA fes) k=false:=by simp only [ee];rw [hfe];simpa using k1
  rw [if_neg (by omega)] at gR
  have hfa:=hfa (by omega) (by omega)
  have hfa:atA fes k=.agg [str fnm,int fk]:=by simp only [ee];exact hfa
  have hkb:0≤k∧k<lenA fes:=by simp only [ee];omega
  by_cases d0:0≤kd
  · have q6:iLe 0 kd=true:=by simp only [ee];simpa using d0
    by_cases d1:fk=kd
    · have q7:iNe fk kd=false:=by simp only [ee];simpa using d1
      rw [if_neg (by omega)] at gR
      have fz:=And.intro hc (And.intro hat (And.intro kok (And.intro kget (And.intro n1 (And.intro hs (And.intro hfa (And.intro q4 (And.intro q5 (And.intro q6 q7)))))))))
      refine Cq ?_
      refine Cr ?_
      refine Cr ?_
      refine oC (fun c1=>?_) fun c1=>?_
      ·
       simp [ee] at c1
      simp [ee] at c1
      refine Cq ?_
      refine oC (fun c2=>?_) fun c2=>?_
      ·
       simp [ee] at c2
      simp [ee] at c2
      refine Cq ?_
      refine zw (d++[k],r,iAdd .i64 i 1,fk) ⟨by rw [g1];simp,hi2,gR⟩ (by simp) (eS [.to 0] [some 0])
    have q7:iNe fk kd=true:=by simp only [ee];simpa using d1
    rw [gR,if_pos ⟨by omega,d1⟩]
    have fz:=And.intro hc (And.intro hat (And.intro kok (And.intro kget (And.intro n1 (And.intro hs (And.intro hfa (And.intro q4 (And.intro q5 (And.intro q6 q7)))))))))
    refine Cq ?_
    refine Cr ?_
    refine Cr ?_
    refine oC (fun c1=>?_) fun c1=>?_
    ·
     simp [ee] at c1
    simp [ee] at c1
    refine Cq ?_
    refine oC (fun c2=>?_) fun c2=>?_
    ·
     simp [ee] at c2
     refine Aq ?_
     refine zl ?_
     refine Aq ?_
     exact fV
    simp [ee] at c2
  have q6:iLe 0 kd=false:=by simp only [ee];simpa using d0
  rw [if_neg (by omega)] at gR
  have fz:=And.intro hc (And.intro hat (And.intro kok (And.intro kget (And.intro n1 (And.intro hs (And.intro hfa (And.intro q4 (And.intro q5 q6))))))))
  refine Cq ?_
  refine Cr ?_
  refine Cr ?_
  refine oC (fun c1=>?_) fun c1=>?_
  ·
   simp [ee] at c1
  simp [ee] at c1
  refine Cq ?_
  refine oC (fun c2=>?_) fun c2=>?_
  ·
   simp [ee] at c2
  simp [ee] at c2
  refine Cq ?_
  refine zw (d++[k],r,iAdd .i64 i 1,fk) ⟨by rw [g1];simp,hi2,gR⟩ (by simp) (eS [.to 0] [some 0])
theorem P_Key1 (ts:List Sch) (x:Qy) {cs:List AV} (hp:x.enc=.agg cs) (hts:xW ts) (hvs:x.vs.length<1048577) (hk:x.key.length<1048577):PCall EL 63 [.iptr [.isl 2 (mapE Sch.enc ts)],.iptr cs] (int (uu ts x.vs x.key)):=by
 have p1:=(P_key ts x hts hvs hk).toL
 have kts:=Sch.closedI ts
 have kvs:=Vr.closedI x.vs
 have krs:=Ex.closedI x.rets
 have kks:=zx x.key
 obtain ⟨pO,pA,pT,pV,pS,pN,pCo,pCa,pCv,pCf,pCk,pXk,pXn,pXt,hx,-,kpA,kpC⟩:=Qy.form x
 rw [hx] at hp p1
 injection hp with hp
 subst hp
 generalize uu ts x.vs x.key=R at *
 generalize mapE Sch.enc ts=ets at *
 generalize mapE Vr.enc x.vs=evs at *
 generalize mapE Ex.enc x.rets=rs at *
 generalize mapE int x.key=es at *
 generalize ba x.nm=nm at *
 clear hx
 refine zr ?_;unhygienic intros
 refine fB T63 [.t 2] ?_
 refine Aq ?_
 refine oPA p1 ?_
 refine Aq ?_
 exact fV
noncomputable def tkE (ts:List Sch) (x:Qy):Int:=if wm ts x.vs≠0 then wm ts x.vs else uu ts x.vs x.key
theorem P_Key (ts:List Sch) (x:Qy) (hts:xW ts) (hvs:x.vs.length<1048577) (hvn:∀ v∈x.vs,v.nm.length<1048577) (hk:x.key.length<1048577) :
 PCall EL 19 [.isl 2 (mapE Sch.enc ts),x.enc] (int (tkE ts x)):=by
 have kts:=Sch.closedI ts
 have kvs:=Vr.closedI x.vs
 have krs:=Ex.closedI x.rets
 have kks:=zx x.key
 have q1:=xw (by simp [AV.closedL,zd,kts]) (P_declared1 ts hts)
 have q2:=xw (by simp [AV.closedL,zd,kts,kvs]) (P_declared2 ts x.vs hts hvs hvn)
 obtain ⟨pO,pA,pT,pV,pS,pN,pCo,pCa,pCv,pCf,pCk,pXk,pXn,pXt,hx,-,kpA,kpC⟩:=Qy.form x
 have pk:=P_Key1 ts x hx hts hvs hk
 have od:=O_declared ts x.vs
 have hr:∀ a b c:Prt,a.e=z7 ts→b.e=wl ts x.vs→c.e=uu ts x.vs x.key→zm Prt.e [a,b,c]=tkE ts x:=fun a b c h1 h2 h3=>by
  simp only [zm,tkE,wm,h1,h2,h3]
  by_cases b1:z7 ts=0<;>by_cases b2:wl ts x.vs=0<;>by_cases b3:uu ts x.vs x.key=0<;>simp_all
 rw [hx]
 generalize z7 ts=c1 at *
 generalize wl ts x.vs=c2 at *
 generalize uu ts x.vs x.key=c3 at *
 generalize tkE ts x=R at *
 generalize mapE Sch.enc ts=ets at *
 generalize mapE Vr.enc x.vs=evs at *
 generalize mapE Ex.enc x.rets=rs at *
 generalize mapE int x.key=es at *
 generalize ba x.nm=nm at *
 have kq:AV.closedL [str nm,.isl 2 evs,.isl 1 es,int pO,.isl 14 pA,int pT,int pV,int pS,int pN,int pCo,.isl 8 pCa,int pCv,int pCf,int pCk,int pXk,int pXn,str pXt,.isl 8 rs]=true:=by simp [AV.closedL,xb,kvs,krs,kks,kpA,kpC]
 have k3:∀ f:FuncId,∀ qc:List AV,AV.closedL qc=true→AV.closedL [.iptr [.fn f [.iptr [.isl 2 ets],.iptr qc]]]=true:=fun f qc h=>by
  have e:AV.closedL [.isl 2 ets]=true:=by simp [AV.closedL,kts]
  simp only [AV.closedL,zd,zA,h,kts,Bool.and_true]
 have q3:=xw (show AV.closedL [.iptr [.isl 2 ets],.iptr _]=true by rw [AV.closedL,AV.closedL,AV.closedL,zd,zd,kq];simp [AV.closedL,kts]) pk
 have qf:=P_firstL [⟨98,_,0,c1⟩,⟨98,_,0,c2⟩,⟨98,_,0,c3⟩] (by simp) (by intro p hp;simp only [List.mem_cons,List.not_mem_nil,or_false] at hp;rcases hp with rfl | rfl | rfl<;>first | (simp [AV.closedL,zA,zd,kts,kvs];done) | exact k3 _ _ kq) ⟨q1,fun _=>⟨q2,fun _=>⟨q3,fun _=>trivial⟩⟩⟩
 rw [hr _ _ _ rfl rfl rfl,zk] at qf
 simp only [List.map_cons,List.map_nil,Prt.enc] at qf
 have k1:AV.closedL [.isl 2 ets]=true:=by simp [AV.closedL,kts]
 have k2:AV.closedL [.isl 2 evs]=true:=by simp [AV.closedL,kvs]
 have kfn:AV.closedL [.iptr [.isl 2 ets],.iptr [str nm,.isl 2 evs,.isl 1 es,int pO,.isl 14 pA,int pT,int pV,int pS,int pN,int pCo,.isl 8 pCa,int pCv,int pCf,int pCk,int pXk,int pXn,str pXt,.isl 8 rs]]=true:=by simp [AV.closedL,xb,zd,kts,kvs,krs,kks,kpA,kpC]
 have qw:=xG 63 _ kfn
 clear hr q1 q2 q3 pk hx
 refine zr ?_;unhygienic intros
 refine fB T19 [.t 4] ?_
 refine goA 0 ?_
 refine xu (F':=[(8,.isl 2 ets),(10,.isl 2 evs),(2,.iptr [.isl 2 ets]),(3,.iptr [str nm,.isl 2 evs,.isl 1 es,int pO,.isl 14 pA,int pT,int pV,int pS,int pN,int pCo,.isl 8 pCa,int pCv,int pCf,int pCk,int pXk,int pXn,str pXt,.isl 8 rs])]) (H':=[]) ?_ ?_
 · exact (zF [.icells ([AV.isl 2 ets]),.icells ([str nm,AV.isl 2 evs,AV.isl 1 es,int pO,AV.isl 14 pA,int pT,int pV,int pS,int pN,int pCo,AV.isl 8 pCa,int pCv,int pCf,int pCk,int pXk,int pXn,str pXt,AV.isl 8 rs])] [] ⟨⟨_,rfl,(zp _ k1).symm⟩,⟨_,rfl,(zp _ kq).symm⟩,trivial⟩ trivial ⟨.cl kts,.cl kvs,.refl _,.refl _,trivial⟩)
 refine on_ocall (args:=[.isl 2 ets,.isl 2 evs]) (v':=.sl 0 1 0 2) (H':=[.arr 1 [AV.agg [.fn 98 [.iptr [.fn 95 [.iptr [.isl 2 ets]]]]],AV.agg [.fn 98 [.iptr [.fn 96 [.iptr [.isl 2 ets],.iptr [.isl 2 evs]]]]]]]) rfl rfl rfl od (by simp [AV.closedL,kts,kvs]) rfl ?_ ?_
 · show [AObj.arr 1 [AV.agg [.fn _ [.iptr [.fn _ [.iptr (AV.subL _ [.isl 2 ets])]]]],AV.agg [.fn _ [.iptr [.fn _ [.iptr (AV.subL _ [.isl 2 ets]),.iptr (AV.subL _ [.isl 2 evs])]]]]]]=_
   rw [zp _ k1,zp _ k2]
 have hcat:catA (dropA [AV.agg [.fn 98 [.iptr [.fn 95 [.iptr [.isl 2 ets]]]]],AV.agg [.fn 98 [.iptr [.fn 96 [.iptr [.isl 2 ets],.iptr [.isl 2 evs]]]]]] 0) (partA [AV.agg [.fn 98 [.iptr [.fn 63 [.iptr [.isl 2 ets],.iptr [str nm,.isl 2 evs,.isl 1 es,int pO,.isl 14 pA,int pT,int pV,int pS,int pN,int pCo,.isl 8 pCa,int pCv,int pCf,int pCk,int pXk,int pXn,str pXt,.isl 8 rs]]]]]] 0 1)=[AV.agg [.fn 98 [.iptr [.fn 95 [.iptr [.isl 2 ets]]]]],AV.agg [.fn 98 [.iptr [.fn 96 [.iptr [.isl 2 ets],.iptr [.isl 2 evs]]]]],AV.agg [.fn 98 [.iptr [.fn 63 [.iptr [.isl 2 ets],.iptr [str nm,.isl 2 evs,.isl 1 es,int pO,.isl 14 pA,int pT,int pV,int pS,int pN,int pCo,.isl 8 pCa,int pCv,int pCf,int pCk,int pXk,int pXn,str pXt,.isl 8 rs]]]]]]:=by simp only [ee];rfl
 have hlen:addN 2 (lenN (partA [AV.agg [.fn 98 [.iptr [.fn 63 [.iptr [.isl 2 ets],.iptr [str nm,.isl 2 evs,.isl 1 es,int pO,.isl 14 pA,int pT,int pV,int pS,int pN,int pCo,.isl 8 pCa,int pCv,int pCf,int pCk,int pXk,int pXn,str pXt,.isl 8 rs]]]]]] 0 1))=3:=by simp only [ee];rfl
 have kfc:(AV.fn 63 [.iptr [.isl 2 ets],.iptr [str nm,.isl 2 evs,.isl 1 es,int pO,.isl 14 pA,int pT,int pV,int pS,int pN,int pCo,.isl 8 pCa,int pCv,int pCf,int pCk,int pXk,int pXn,str pXt,.isl 8 rs]]).closed=true:=by rw [zA];exact kfn
 have k5:AV.closedL [AV.agg [.fn 98 [.iptr [.fn 95 [.iptr [.isl 2 ets]]]]],AV.agg [.fn 98 [.iptr [.fn 96 [.iptr [.isl 2 ets],.iptr [.isl 2 evs]]]]],AV.agg [.fn 98 [.iptr [.fn 63 [.iptr [.isl 2 ets],.iptr [str nm,.isl 2 evs,.isl 1 es,int pO,.isl 14 pA,int pT,int pV,int pS,int pN,int pCo,.isl 8 pCa,int pCv,int pCf,int pCk,int pXk,int pXn,str pXt,.isl 8 rs]]]]]]=true:=by
  have a:AV.closedL [AV.agg [.fn 98 [.iptr [.fn 95 [.iptr [.isl 2 ets]]]]],AV.agg [.fn 98 [.iptr [.fn 96 [.iptr [.isl 2 ets],.iptr [.isl 2 evs]]]]]]=true:=by simp [AV.closedL,wb,zA,zd,kts,kvs]
  have b:(AV.agg [.fn 98 [.iptr [.fn 63 [.iptr [.isl 2 ets],.iptr [str nm,.isl 2 evs,.isl 1 es,int pO,.isl 14 pA,int pT,int pV,int pS,int pN,int pCo,.isl 8 pCa,int pCv,int pCf,int pCk,int pXk,int pXn,str pXt,.isl 8 rs]]]]]).closed=true:=by simp [AV.closedL,xb,wb,zA,zd,kts,kvs,krs,kks,kpA,kpC]
  simp only [AV.closedL,Bool.and_true,Bool.and_eq_true] at a b ⊢
  exact ⟨a.1,a.2,b⟩
 refine Aq ?_
 refine on_pcall (args:=[.fn 63 [.iptr [.isl 2 ets],.iptr [str nm,.isl 2 evs,.isl 1 es,int pO,.isl 14 pA,int pT,int pV,int pS,int pN,int pCo,.isl 8 pCa,int pCv,int pCf,int pCk,int pXk,int pXn,str pXt,.isl 8 rs]]]) rfl rfl rfl qw (by rw [AV.closedL,kfc];rfl) ?_
 have fz:=And.intro hcat hlen
 refine goC 60 ?_
 refine yp rfl rfl qf rfl ⟨[.gone,.gone,.isl 1 [AV.agg [.fn 98 [.iptr [.fn 95 [.iptr [.isl 2 ets]]]]],AV.agg [.fn 98 [.iptr [.fn 96 [.iptr [.isl 2 ets],.iptr [.isl 2 evs]]]]],AV.agg [.fn 98 [.iptr [.fn 63 [.iptr [.isl 2 ets],.iptr [str nm,.isl 2 evs,.isl 1 es,int pO,.isl 14 pA,int pT,int pV,int pS,int pN,int pCo,.isl 8 pCa,int pCv,int pCf,int pCk,int pXk,int pXn,str pXt,.isl 8 rs]]]]]]],⟨trivial,trivial,⟨_,rfl,(zp _ k5).symm⟩,trivial⟩,⟨.refl _,trivial⟩⟩ ?_
 refine Aq ?_
 exact fV
end Go.Am
end
