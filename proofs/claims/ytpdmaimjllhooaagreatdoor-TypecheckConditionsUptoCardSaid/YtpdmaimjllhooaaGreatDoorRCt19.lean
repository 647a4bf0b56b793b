/- Contracts of the program's functions. -/
import Derived.Test.YtpdmaimjllhooaaGreatDoorProg
import Derived.Test.YtpdmaimjllhooaaGreatDoorRCt17
import Derived.Test.YtpdmaimjllhooaaGreatDoorRCt18
import Derived.Test.YtpdmaimjllhooaaGreatDoorCards
import Derived.Test.YtpdmaimjllhooaaGreatDoorRows
import Derived.Test.YtpdmaimjllhooaaGreatDoorTie
import Derived.Test.YtpdmaimjllhooaaGreatDoorRCt14
section
set_option maxHeartbeats 16000000
set_option maxRecDepth 100000
namespace Go.Am
open Go.Proofs
theorem P_Returns (p:Pat) (l:List Ex) (hs:p.Sm) (hl:∀ e∈l,e.Sm) (hn:l.length<1048577):PCall EE 70 [p.enc,.isl 8 (mapE Ex.enc l)] (.tup [int (p.rtI l),int (p.rtE l)]):=by
 have q1:=P_pattern_Check p hs
 have hcl:=Pat.closed p
 have hec:=Ex.closedI l
 by_cases hk:p.chk=0
 rotate_left
 · have hE:p.rtE l=p.chk:=by unfold Pat.rtE;rw [if_pos hk]
   have hI:p.rtI l=0:=by unfold Pat.rtI;rw [if_pos hk]
   rw [hE,hI]
   generalize mapE Ex.enc l=es at *
   generalize p.chk=er at *
   obtain ⟨pO,pA,pT,pV,pS,pN,pCo,pCa,pCv,pCf,pCk,pXk,pXn,pXt,hx,hxc,hpO,hpA,hpT,hpV,hpS,hpN⟩:=Pat.form2 p
   rw [hx] at q1 hcl ⊢
   clear hx hs hE hI
   refine zr ?_;unhygienic intros
   have kc:iNe er 0=true:=by simp only [ee];simpa using hk
   refine fB T70 [.t 4,.t 5] ?_
   refine Aq ?_
   refine oPA q1 ?_
   have fz:=kc
   refine Cq ?_
   refine Aq ?_
   exact fE [.gone]
 have hw:=ti hk
 have q2:=P_Bound p hs
 have q3:=P_ones p hs hw
 have hq4:∀ e∈l,PCall EE 89 [e.enc] (int e.chk):=fun e he=>P_expr_Check e (hl e he)
 have hq5:∀ e∈l,PCall EE 101 [e.enc,p.retP.enc] (int (e.fol p.retP)):=fun e he=>P_follows p.retP (by have:=wu hw;show p.bound.length<_;omega) (by have:=wP hw;show p.ones.length<_;omega) e (hl e he)
 rw [hk] at q1
 have r1:=zx p.bound
 have r2:=zx p.ones
 have hrc:p.retP.enc=.agg [.isl 1 (mapE int p.bound),.isl 1 (mapE int p.ones),int (-1)]:=rfl
 rw [hrc] at hq5
 have hE:p.rtE l=if 256<l.length then 5 else zm (x8 p.retP) l:=by unfold Pat.rtE;rw [if_neg (fun k=>k hk)]
 have hI:p.rtI l=if 256<l.length then 0 else yg (x8 p.retP) l:=by unfold Pat.rtI;rw [if_neg (fun k=>k hk)]
 rw [hE,hI]
 clear hE hI hrc
 generalize p.retP=s at *
 generalize mapE int p.bound=A1 at *
 generalize mapE int p.ones=A2 at *
 have hcs:(AV.agg [.isl 1 A1,.isl 1 A2,int (-1)]).closed=true:=by simp [AV.closed,AV.closedL] at r1 r2 ⊢;exact ⟨r1,r2⟩
 obtain ⟨pO,pA,pT,pV,pS,pN,pCo,pCa,pCv,pCf,pCk,pXk,pXn,pXt,hx,hxc,hpO,hpA,hpT,hpV,hpS,hpN⟩:=Pat.form2 p
 rw [hx] at q1 q2 q3 hcl ⊢
 clear hx hs hw hk
 refine zr ?_;unhygienic intros
 generalize hes:mapE Ex.enc l=es at *
 have hel:es.length=l.length:=by rw [← hes,zq]
 have kc:iNe 0 0=false:=by simp only [ee];rfl
 by_cases h256:256<l.length
 · rw [if_pos h256,if_pos h256]
   have kl:iLt 256 (lenA es)=true:=by simp only [ee];simp;omega
   refine fB T70 [.t 4,.t 5] ?_
   refine Aq ?_
   refine oPA q1 ?_
   have fz:=And.intro kc kl
   refine Cq ?_
   refine Cr ?_
   refine Aq ?_
   exact fE [.gone]
 rw [if_neg h256,if_neg h256]
 have kl:iLt 256 (lenA es)=false:=by simp only [ee];simp;omega
 obtain ⟨R,hR⟩:∃ R,R=zm (x8 s) l:=⟨_,rfl⟩
 obtain ⟨J,hJ⟩:∃ J,J=yg (x8 s) l:=⟨_,rfl⟩
 rw [← hR,← hJ]
 have hJ2:J=if R≠0 then 0+yg (x8 s) l else 0:=by
  by_cases h:R=0
  · rw [if_neg (fun k=>k h),hJ,idx_zero (hR ▸ h)]
  rw [if_pos h,hJ];omega
 refine fB T70 [.t 4,.t 5] ?_
 refine Aq ?_
 refine oPA q1 ?_
 have fz:=And.intro kc kl
 refine Cq ?_
 refine Cr ?_
 refine Aq ?_
 refine zb rfl (by conv=>lhs;cbv) rfl ?_
 refine tgA ?_
 refine oPT q2 ?_
 refine tgA ?_
 refine oPT q3 ?_
 refine tgA ?_
 refine zW ⟨rfl,by simp [za,zZ],?_⟩
 refine Aq ?_
 refine zf (ι:=List Ex × List Ex × Int) (fun p=>([(26,int p.2.2),(25,int (lenA es)),(24,.isl 8 es),(7,.ptr 0 0)],[.cells [.isl 1 A1,.isl 1 A2,int (-1)]])) (fun p=>l=p.1++p.2.1∧p.2.2=p.1.length∧R=zm (x8 s) p.2.1∧J=(if R≠0 then p.2.2+yg (x8 s) p.2.1 else 0)) (fun p=>p.2.1.length) ([],l,0) ⟨rfl,rfl,hR,hJ2⟩ ?_ ?_
 · exact (eS [.gone,.to 0] [some 1])
 rintro ⟨d,r,i⟩ ⟨g1,gi,gR,gJ⟩
 dsimp only at g1 gi gR gJ ⊢
 cases r with
 | nil =>
  have L1:=zu g1
  try simp only [List.length] at L1
  have hc:iLt i (lenA es)=false:=yW e_iLt e_lenA (by omega)
  have gR:R=0:=gR
  subst gR
  have gJ:J=0:=gJ
  subst gJ
  have fz:=hc
  refine Cq ?_
  refine Aq ?_
  refine zo ?_
  refine Aq ?_
  exact fE [.gone]
 | cons q r =>
  have L1:=zu g1
  try simp only [List.length] at L1
  have hc:iLt i (lenA es)=true:=yY e_iLt e_lenA (by omega)
  have hat:=zP e_atA hes g1 gi
  have hqm:q∈l:=by rw [g1];simp
  have q4:=hq4 q hqm
  have q5:=hq5 q hqm
  have hqc:=Ex.closed q
  have hi2:iAdd .i64 i 1=((d++[q]).length:Int):=by rw [List.length_append];exact zJ e_iAdd gi (by omega)
  obtain ⟨ck,eck⟩:∃ z,z=q.chk:=⟨_,rfl⟩
  obtain ⟨fq,efq⟩:∃ z,z=q.fol s:=⟨_,rfl⟩
  have hre:x8 s q=if ck≠0 then ck else fq:=by rw [eck,efq];rfl
  rw [← eck] at q4
  rw [← efq] at q5
  rw [zm,hre] at gR
  rw [yg,hre] at gJ
  clear eck efq hre
  obtain ⟨qO,qA,qV,qF,qK,qXk,qXn,qXt,hxq⟩:=Ex.form q
  rw [hxq] at hat hqc q4 q5
  by_cases h1:ck=0
  · subst h1
    have e1:(if (0:Int)≠0 then (0:Int) else fq)=fq:=if_neg (fun k=>k rfl)
    rw [e1] at gR gJ
    have w0:iEq 0 0=true:=by simp only [ee];rfl
    by_cases h2:fq=0
    · subst h2
      rw [if_neg (fun k=>k rfl)] at gR
      have e2:(if (0:Int)≠0 then (0:Int) else if zm (x8 s) r≠0 then yg (x8 s) r+1 else 0)=if zm (x8 s) r≠0 then yg (x8 s) r+1 else 0:=if_neg (fun k=>k rfl)
      rw [e2] at gJ
      have gJ2:J=if R≠0 then iAdd .i64 i 1+yg (x8 s) r else 0:=by
       rw [gJ]
       by_cases h:R=0
       · rw [if_neg (fun k=>k h),if_neg (fun k=>k h)]
       rw [if_pos h,if_pos h,if_pos (gR ▸ h),hi2,List.length_append];simp only [List.length_cons,List.length_nil];omega
      have fz:=And.intro hc (And.intro hat (And.intro w0 kc))
      refine Cq ?_
      refine Cr ?_
      refine oPA q4 ?_
      refine Cq ?_
      refine Aq ?_
      refine oPA q5 ?_
      refine Cq ?_
      refine Aq ?_
      refine zw (d++[q],r,iAdd .i64 i 1) ⟨by simp [g1],hi2,gR,gJ2⟩ (by simp) (eS [.to 0,.gone] [some 0])
    rw [if_pos h2] at gR
    subst gR
    rw [if_pos h2,if_pos h2,Int.add_zero] at gJ
    subst gJ
    have w1:iNe R 0=true:=by simp only [ee];simpa using h2
    have fz:=And.intro hc (And.intro hat (And.intro w0 w1))
    refine Cq ?_
    refine Cr ?_
    refine oPA q4 ?_
    refine Cq ?_
    refine Aq ?_
    refine oPA q5 ?_
    refine Cq ?_
    refine Aq ?_
    refine zl ?_
    refine Aq ?_
    exact fE [.gone,.gone]
  rw [if_pos h1,if_pos h1] at gR
  subst gR
  rw [if_pos h1,if_pos h1,if_pos h1,Int.add_zero] at gJ
  subst gJ
  have w0:iEq R 0=false:=by simp only [ee];simpa using h1
  have w1:iNe R 0=true:=by simp only [ee];simpa using h1
  have fz:=And.intro hc (And.intro hat (And.intro w0 w1))
  refine Cq ?_
  refine Cr ?_
  refine oPA q4 ?_
  refine Cq ?_
  refine Cr ?_
  refine Aq ?_
  refine zl ?_
  refine Aq ?_
  exact fE [.gone,.gone]
theorem P_ref15_Check (p:Pat) (hs:p.Sm):PCall EE 62 [p.enc] (.tup [int p.scI,int p.scE]):=by
 have q1:=P_ref09_Check p hs
 have hcl:=Pat.closed p
 by_cases hk:p.chk=0
 rotate_left
 · have hE:p.scE=p.chk:=by unfold Pat.scE;rw [if_pos hk]
   have hI:p.scI=0:=by unfold Pat.scI;rw [if_pos hk]
   rw [hE,hI]
   generalize p.chk=er at *
   obtain ⟨pO,pA,pT,pV,pS,pN,pCo,pCa,pCv,pCf,pCk,pXk,pXn,pXt,hx,hxc,hpO,hpA,hpT,hpV,hpS,hpN⟩:=Pat.form2 p
   rw [hx] at q1 hcl ⊢
   clear hx hs hE hI
   refine zr ?_;unhygienic intros
   have kc:iNe er 0=true:=by simp only [ee];simpa using hk
   refine fB T62 [.t 2,.t 3] ?_
   refine Aq ?_
   refine oPA q1 ?_
   have fz:=kc
   refine Cq ?_
   refine Aq ?_
   exact fE [.gone]
 have hw:=ti hk
 have hcnt:=(chkR_zero.1 (we (vm hk).1).1).1
 have q2:=yG p hs
 have hq3:=fun i:Int=>P_ref15_At p i hs
 have hnc:=Pat.closedI p.nodes
 have hll:=Pat.lf_len p PlcS
 have hnl:=p.nodes_len
 have hnode:∀ q∈p.nodes,q.Sm:=hs.node
 have hok:=Pat.lf_ok p hw PlcS PlcS_ok
 have hmap:=Pat.lf_map p PlcS
 have hatE:∀ (d:List (Pat × Plc)) (x:Pat × Plc) (r:List (Pat × Plc)),Pat.lf PlcS p=d++x :: r→p.atE d.length=(if yB x.1.op=true then 0 else 1)∧p.atP d.length=(if yB x.1.op=true then x.1.own x.2 else Plc0):=by
  intro d x r h
  have hlen:d.length<p.nodes.length:=by rw [hnl,← hll,h];simp
  have hg:(Pat.lf PlcS p).getD d.length (Pat0,Plc0)=x:=by rw [h,List.getD_eq_getElem?_getD];simp
  have hno:p.nodeAt d.length=x.1:=by
   unfold Pat.nodeAt
   rw [if_pos ⟨by omega,by omega⟩,← hg,lf_at];rfl
  have h1:p.atE d.length=if yB x.1.op=true then 0 else 1:=by
   unfold Pat.atE
   rw [if_neg (fun k=>k hk),if_pos ⟨by omega,by omega⟩,hno]
  refine ⟨h1,?_⟩
  unfold Pat.atP
  rw [h1,show (d.length:Int).toNat=d.length from rfl,hg]
  by_cases ht:yB x.1.op=true
  · rw [if_pos ht,if_pos ht,if_pos rfl]
  rw [if_neg ht,if_neg ht,if_neg (by decide)]
 rw [hk] at q1
 have hE:p.scE=zm yI (Pat.lf PlcS p):=by unfold Pat.scE;rw [if_neg (fun k=>k hk)]
 have hI:p.scI=yg yI (Pat.lf PlcS p):=by unfold Pat.scI;rw [if_neg (fun k=>k hk)]
 obtain ⟨R,hR⟩:∃ R,R=p.scE:=⟨_,rfl⟩
 obtain ⟨J,hJ⟩:∃ J,J=p.scI:=⟨_,rfl⟩
 rw [← hR,← hJ]
 rw [hE] at hR
 rw [hI] at hJ
 have hJ2:J=if R≠0 then 0+yg yI (Pat.lf PlcS p) else 0:=by
  by_cases h:R=0
  · rw [if_neg (fun k=>k h),hJ,idx_zero (hR ▸ h)]
  rw [if_pos h,hJ];omega
 clear hE hI hJ
 obtain ⟨L,hL⟩:∃ L,L=Pat.lf PlcS p:=⟨_,rfl⟩
 rw [← hL] at hR hJ2 hatE hmap hok hll
 have hz:Plc0.enc=.agg [.isl 1 [],.isl 1 [],int 0]:=by
  unfold Plc.enc Plc0
  have:mapE int []=[]:=by rw [zk];rfl
  dsimp only
  rw [this]
 obtain ⟨pO,pA,pT,pV,pS,pN,pCo,pCa,pCv,pCf,pCk,pXk,pXn,pXt,hx,hxc,hpO,hpA,hpT,hpV,hpS,hpN⟩:=Pat.form2 p
 rw [hx] at q1 q2 hcl hq3 ⊢
 have hpAI:(AV.isl 14 pA).closed=true:=by have:=hcl;simp [AV.closed,AV.closedL] at this ⊢;exact this.1
 have hpCI:(AV.isl 8 pCa).closed=true:=by have:=hcl;simp [AV.closed,AV.closedL] at this ⊢;exact this.2
 refine zr ?_;unhygienic intros
 generalize hes:mapE Pat.enc p.nodes=ns at *
 have hel:ns.length=L.length:=by rw [← hes,zq,hnl,hll]
 have k0:iNe 0 0=false:=by simp only [ee];rfl
 have k1:iNe 1 0=true:=by simp only [ee];rfl
 refine fB T62 [.t 2,.t 3] ?_
 refine Aq ?_
 refine oPA q1 ?_
 have fz:=k0
 refine Cq ?_
 refine Aq ?_
 refine oPA q2 ?_
 refine Aq ?_
 refine zf (ι:=List (Pat × Plc) × List (Pat × Plc) × Int) (fun p=>([(6,int p.2.2),(5,.isl 14 ns),(1,.ptr 0 0)],[.cells [int pO,.isl 14 pA,int pT,int pV,int pS,int pN,int pCo,.isl 8 pCa,int pCv,int pCf,int pCk,int pXk,int pXn,str pXt]])) (fun p=>L=p.1++p.2.1∧p.2.2=p.1.length∧R=zm yI p.2.1∧J=(if R≠0 then p.2.2+yg yI p.2.1 else 0)) (fun p=>p.2.1.length) ([],L,0) ⟨rfl,rfl,hR,hJ2⟩ ?_ ?_
 · exact (eS [.to 0] [some 0])
 rintro ⟨d,r,i⟩ ⟨g1,gi,gR,gJ⟩
 dsimp only at g1 gi gR gJ ⊢
 cases r with
 | nil =>
  have L1:=zu g1
  try simp only [List.length] at L1
  have hc:iLt i (lenA ns)=false:=yW e_iLt e_lenA (by omega)
  have gR:R=0:=gR
  subst gR
  have gJ:J=0:=gJ
  subst gJ
  have fz:=hc
  refine Cq ?_
  refine Aq ?_
  refine zo ?_
  refine Aq ?_
  exact fE [.gone]
 | cons x r =>
  have L1:=zu g1
  try simp only [List.length] at L1
  have hc:iLt i (lenA ns)=true:=yY e_iLt e_lenA (by omega)
  have hno:p.nodes=d.map Prod.fst++x.1 :: r.map Prod.fst:=by rw [← hmap,g1,List.map_append,List.map_cons]
  have hat:=zP e_atA hes hno (show i=(d.map Prod.fst).length by rw [List.length_map];exact gi)
  have hxs:=hnode x.1 (by rw [hno];simp)
  have hxo:=hok x (by rw [g1];simp)
  have hxw:x.1.wf:=hw.node hxo.2
  obtain ⟨a1,a2⟩:=hatE d x r g1
  rw [← gi] at a1 a2
  have q3:=hq3 i
  rw [a1,a2] at q3
  have hqc:=Pat.closed x.1
  have hcc:=Ex.closed x.1.cond
  have hi2:iAdd .i64 i 1=((d++[x]).length:Int):=by rw [List.length_append];exact zJ e_iAdd gi (by omega)
  rw [zm] at gR
  rw [yg] at gJ
  have hce:yI x=if yB x.1.op=true then x.1.cond.fol (x.1.own x.2) else 0:=rfl
  rw [hce] at gR gJ
  by_cases ht:yB x.1.op=true
  rotate_left
  · rw [if_neg ht,if_neg ht,hz] at q3
    rw [if_neg ht,if_neg (fun k=>k rfl)] at gR
    have gJ2:J=if R≠0 then iAdd .i64 i 1+yg yI r else 0:=by
     rw [gJ,if_neg ht]
     by_cases h:R=0
     · rw [if_neg (fun k=>k h),if_neg (fun k=>k h)]
     rw [if_pos h,if_pos h,if_neg (fun k=>k rfl),if_pos (gR ▸ h),hi2,List.length_append];simp only [List.length_cons,List.length_nil];omega
    have fz:=And.intro hc (And.intro hat (And.intro k0 k1))
    refine Cq ?_
    refine Aq ?_
    refine oPA q3 ?_
    refine Cq ?_
    refine Aq ?_
    refine zw (d++[x],r,iAdd .i64 i 1) ⟨by simp [g1],hi2,gR,gJ2⟩ (by simp) (eS [.to 0,.gone] [some 0])
  rw [if_pos ht,if_pos ht] at q3
  have hoo:=own_ok hxw ht hxo.1
  have q4:=P_ref15_Follows (x.1.own x.2) (by have:=hoo.2.2.1;omega) (by have:=hoo.2.2.2;omega) x.1.cond hxs.cond'
  rw [if_pos ht] at gR gJ
  have r1:=zx (x.1.own x.2).us
  have r2:=zx (x.1.own x.2).si
  simp only [Plc.enc] at q3 q4
  generalize mapE int (x.1.own x.2).us=A1 at *
  generalize mapE int (x.1.own x.2).si=A2 at *
  generalize (x.1.own x.2).fb=f2 at *
  have hcs:(AV.agg [.isl 1 A1,.isl 1 A2,int f2]).closed=true:=by simp [AV.closed,AV.closedL] at r1 r2 ⊢;exact ⟨r1,r2⟩
  generalize x.1.cond.fol (x.1.own x.2)=fq at *
  obtain ⟨xq,exq⟩:∃ xq,xq=x.1:=⟨_,rfl⟩
  rw [← exq] at hat hqc hcc q4
  obtain ⟨xqO,xqA,xqT,xqV,xqS,xqN,xqCo,xqCa,xqCv,xqCf,xqCk,xqXk,xqXn,xqXt,hxq,hxqc,hxqO,hxqA,hxqT,hxqV,hxqS,hxqN⟩:=Pat.form2 xq
  rw [hxq] at hat hqc
  rw [hxqc] at q4 hcc
  by_cases h2:fq=0
  · subst h2
    rw [if_neg (fun k=>k rfl)] at gR
    have e2:(if (0:Int)≠0 then (0:Int) else if zm yI r≠0 then yg yI r+1 else 0)=if zm yI r≠0 then yg yI r+1 else 0:=if_neg (fun k=>k rfl)
    rw [e2] at gJ
    have gJ2:J=if R≠0 then iAdd .i64 i 1+yg yI r else 0:=by
     rw [gJ]
     by_cases h:R=0
     · rw [if_neg (fun k=>k h),if_neg (fun k=>k h)]
     rw [if_pos h,if_pos h,if_pos (gR ▸ h),hi2,List.length_append];simp only [List.length_cons,List.length_nil];omega
    have fz:=And.intro hc (And.intro hat (And.intro k0 k1))
    refine Cq ?_
    refine Aq ?_
    refine oPA q3 ?_
    refine Cq ?_
    refine Cr ?_
    refine zb rfl (by conv=>lhs;cbv) rfl ?_
    refine tgC ?_
    refine oPT q4 ?_
    refine tgA ?_
    refine zW ⟨rfl,by simp [za,zZ],?_⟩
    refine Cq ?_
    refine Aq ?_
    refine zw (d++[x],r,iAdd .i64 i 1) ⟨by simp [g1],hi2,gR,gJ2⟩ (by simp) (eS [.to 0,.gone] [some 0])
  have w1:iNe fq 0=true:=by simp only [ee];simpa using h2
  rw [if_pos h2] at gR
  subst gR
  rw [if_pos h2,if_pos h2,Int.add_zero] at gJ
  subst gJ
  have fz:=And.intro hc (And.intro hat (And.intro k0 (And.intro k1 w1)))
  refine Cq ?_
  refine Aq ?_
  refine oPA q3 ?_
  refine Cq ?_
  refine Cr ?_
  refine zb rfl (by conv=>lhs;cbv) rfl ?_
  refine tgC ?_
  refine oPT q4 ?_
  refine tgA ?_
  refine zW ⟨rfl,by simp [za,zZ],?_⟩
  refine Cq ?_
  refine Aq ?_
  refine zl ?_
  refine Aq ?_
  exact fE [.gone,.gone]
theorem P_conditional (p:Pat):PCall EE 61 [p.enc] (bool (decide (p.op=0∨p.op=5∨p.op=7))):=by
 obtain ⟨R,hR⟩:∃ R,R=decide (p.op=0∨p.op=5∨p.op=7):=⟨_,rfl⟩
 rw [← hR]
 have kpc:=Pat.closed p
 obtain ⟨pO,pA,pT,pV,pS,pN,pCo,pCa,pCv,pCf,pCk,pXk,pXn,pXt,hx,hxc,hpO,hpA,hpT,hpV,hpS,hpN⟩:=Pat.form2 p
 rw [hx] at kpc ⊢
 rw [← hpO] at hR
 clear hx hxc
 refine zr ?_;unhygienic intros
 refine fB T61 [.t 2] ?_
 refine Aq ?_
 exact fBo (h:=by rw [hR];simp only [ee];rw [Bool.eq_iff_iff];simp [or_assoc])
theorem firstE_hit {α:Type} {F:α→Int} {l d r:List α} {q:α} (h:l=d++q :: r) (hd:∀ x∈d,F x=0) (hq:F q≠0):zm F l=F q∧yg F l=d.length:=by
 subst h
 refine ⟨firstE_at hd hq,?_⟩
 rw [idxE_append F d _ (xc hd) (by rw [zm,if_pos hq];exact hq),yg,if_pos hq];omega
theorem P_ref16Pattern (ts:List Sch) (vs:List Vr) (p:Pat) (hs:p.Sm) (hts:xW ts) (hvs:vs.length<1048577) (hvn:∀ v∈vs,v.nm.length<1048577) :
 PCall EE 18 [.isl 2 (mapE Sch.enc ts),.isl 2 (mapE Vr.enc vs),p.enc] (.tup [int (tpI ts vs p),int (tpE ts vs p)]):=by
 have p1:=P_refvariables ts vs hts hvs hvn
 have p2:=P_ref09_Count p hs
 have p3:=yG p hs
 have p4:=P_ref15_Check p hs
 have hnl:p.nodes.length<1048577:=by rw [Pat.nodes_len];have:=hs.1;omega
 have pc:∀ q∈p.nodes,PCall EE 15 [.isl 2 (mapE Sch.enc ts),.isl 2 (mapE Vr.enc vs),q.cond.enc] (int (wQ ts vs q.cond)):=fun q hq=>P_refCondition ts vs q.cond hts hvs (hs.node q hq).cond'
 have kts:=Sch.closedI ts
 have kvs:=Vr.closedI vs
 have kpc:=Pat.closed p
 have knl:=Pat.closedI p.nodes
 have hev:(mapE Vr.enc vs).length=vs.length:=zq ..
 obtain ⟨⟨R1,R2⟩,hR⟩:∃ R:Int × Int,R=(tpI ts vs p,tpE ts vs p):=⟨_,rfl⟩
 injection hR with hR1 hR2
 rw [← hR1,← hR2]
 rw [tpI] at hR1
 rw [tpE] at hR2
 rw [uT] at hR1 hR2
 have hvin:p.chk=0→p.nVars=vs.length→_:=fun h1 h2=>vars_in h1 h2
 have hat:∀ v:Int,0≤v→v<vs.length→∃ nm,(mapE Vr.enc vs).getD v.toNat .undef=.agg [str nm,int (vty vs v)]:=fun v h0 h1=>by
  obtain ⟨d,x,r,e1,e2,_⟩:=xT (l:=vs) (n:=v.toNat) (by omega)
  refine ⟨ba x.nm,?_⟩
  rw [vty_at e1 (by omega),e1,← e2,zk,List.map_append,List.map_cons]
  simp [Vr.enc_eq]
 generalize mapE Sch.enc ts=ets at *
 generalize mapE Vr.enc vs=evs at *
 obtain ⟨de,hde⟩:∃ z,z=wm ts vs:=⟨_,rfl⟩
 rw [← hde] at p1 hR1 hR2
 obtain ⟨ck,hck⟩:∃ z,z=p.chk:=⟨_,rfl⟩
 rw [← hck] at p2 hR1 hR2 hvin
 obtain ⟨nv,hnv⟩:∃ z,z=p.nVars:=⟨_,rfl⟩
 rw [← hnv] at p2 hR1 hR2 hvin
 obtain ⟨F,hF⟩:∃ F,F=ndE ts vs:=⟨_,rfl⟩
 rw [← hF] at hR1 hR2
 generalize p.nScs=ns at *
 generalize p.scI=si at *
 generalize p.scE=se at *
 obtain ⟨pO,pA,pT,pV,pS,pN,pCo,pCa,pCv,pCf,pCk,pXk,pXn,pXt,hx⟩:=Pat.form p
 rw [hx] at p2 p3 p4 kpc ⊢
 have kpA:(AV.isl 14 pA).closed=true:=by have:=kpc;simp [AV.closed,AV.closedL] at this ⊢;exact this.1
 have kpC:(AV.isl 8 pCa).closed=true:=by have:=kpc;simp [AV.closed,AV.closedL] at this ⊢;exact this.2
 clear hx hde hck hnv
 generalize hnn:p.nodes=nl at *
 refine zr ?_;unhygienic intros
 have n0:iNe 0 0=false:=by simp only [ee];rfl
 refine fB T18 [.t 6,.t 7] ?_
 by_cases h1:de=0
 rotate_left
 · have q1:iNe de 0=true:=by simp only [ee];simpa using h1
   rw [if_pos h1] at hR1 hR2
   rw [hR1,hR2]
   clear p2 p3 p4 pc hvin hat
   refine Aq ?_
   refine oPA p1 ?_
   have fz:=q1
   refine Cq ?_
   refine Aq ?_
   exact fE [.gone]
 rw [if_neg (by omega)] at hR1 hR2
 subst h1
 by_cases h2:ck=0
 rotate_left
 · have q1:iNe ck 0=true:=by simp only [ee];simpa using h2
   rw [if_pos h2] at hR1 hR2
   rw [if_pos h2] at hR1 hR2
   rw [hR1,hR2]
   clear p3 p4 pc hvin hat
   refine Aq ?_
   refine oPA p1 ?_
   have fz:=And.intro n0 q1
   refine Cq ?_
   refine Aq ?_
   refine oPA p2 ?_
   refine Cq ?_
   refine Aq ?_
   exact fE [.gone]
 rw [if_neg (by omega:¬ ck≠0)] at hR1 hR2
 replace hvin:=hvin h2
 subst h2
 by_cases h3:nv=vs.length
 rotate_left
 · have q1:iNe nv (lenA evs)=true:=by simp only [ee];rw [hev];simpa using h3
   rw [if_pos h3,if_pos (by decide)] at hR1 hR2
   rw [hR1,hR2]
   clear p3 p4 pc hvin hat
   refine Aq ?_
   refine oPA p1 ?_
   have fz:=And.intro n0 q1
   refine Cq ?_
   refine Aq ?_
   refine oPA p2 ?_
   refine Cq ?_
   refine Cr ?_
   refine Aq ?_
   exact fE [.gone]
 rw [if_neg (by omega:¬ nv≠vs.length),if_neg (by decide)] at hR1 hR2
 have q3:iNe nv (lenA evs)=false:=by simp only [ee];rw [hev];simpa using h3
 replace hvin:=hvin h3
 generalize hes:mapE Pat.enc nl=es at *
 have hel:es.length=nl.length:=by rw [← hes,zq]
 refine Aq ?_
 refine oPA p1 ?_
 have fz:=n0
 refine Cq ?_
 refine Cr ?_
 refine oPA p2 ?_
 have fz:=And.intro n0 q3
 refine Cq ?_
 refine Cr ?_
 refine Cr ?_
 refine oPA p3 ?_
 refine Aq ?_
 refine zf (ι:=List Pat × List Pat × Int) (fun p=>([(13,int p.2.2),(12,.isl 14 es),(5,.ptr 0 0),(1,.isl 2 evs),(0,.isl 2 ets)],[.cells [int pO,.isl 14 pA,int pT,int pV,int pS,int pN,int pCo,.isl 8 pCa,int pCv,int pCf,int pCk,int pXk,int pXn,str pXt]])) (fun p=>nl=p.1++p.2.1∧p.2.2=p.1.length∧∀ q∈p.1,F q=0) (fun p=>p.2.1.length) ([],nl,0) ⟨rfl,rfl,by simp⟩ ?_ ?_
 · exact (eS [.to 0] [some 0])
 rintro ⟨d,r,i⟩ ⟨g1,gi,gd⟩
 dsimp only at g1 gi gd ⊢
 cases r with
 | nil =>
  have L1:=zu g1
  try simp only [List.length] at L1
  have hc:iLt i (lenA es)=false:=yW e_iLt e_lenA (by omega)
  rw [List.append_nil] at g1
  have hz:zm F nl=0:=by rw [g1];exact xc gd
  rw [hz,if_neg (by decide)] at hR1 hR2
  rw [hR1,hR2]
  clear pc hvin hat p1 p2 p3
  have fz:=hc
  refine Cq ?_
  refine Aq ?_
  refine zo ?_
  refine Aq ?_
  refine oPA p4 ?_
  refine Aq ?_
  exact fE [.gone]
 | cons q r =>
  have L1:=zu g1
  try simp only [List.length] at L1
  have hc:iLt i (lenA es)=true:=yY e_iLt e_lenA (by omega)
  have hat2:=zP e_atA hes g1 gi
  have hi2:iAdd .i64 i 1=((d++[q]).length:Int):=by rw [List.length_append];exact zJ e_iAdd gi (by omega)
  have hqc:=Pat.closed q
  have pq:=P_conditional q
  have pcq:=pc q (by rw [g1];simp)
  have hin:=hvin q (by rw [g1];simp)
  have hatq:=fun h=>hat q.var (hin h).1 (hin h).2
  have hnd:F q=if q.op=0∨q.op=5 then if q.ty≠vty vs q.var then 9 else wQ ts vs q.cond else if q.op=7 then wQ ts vs q.cond else 0:=by rw [hF];rfl
  have hgood:F q=0→∀ x∈d++[q],F x=0:=fun e x hx=>by
   rcases List.mem_append.1 hx with hx | hx
   · exact gd x hx
   rw [List.mem_singleton.1 hx];exact e
  have hbad:F q≠0→R1=i∧R2=F q:=fun e=>by
   have:=firstE_hit g1 gd e
   rw [this.1,if_pos e] at hR1 hR2
   rw [hR1,hR2,this.2];exact ⟨gi.symm,rfl⟩
  clear hvin hat pc p1 p2 p3 p4 hR1 hR2 hF
  obtain ⟨qO,qA,qT,qV,qS,qN,qCo,qCa,qCv,qCf,qCk,qXk,qXn,qXt,hx,hxc,hqO,hqA,hqT,hqV,hqS,hqN⟩:=Pat.form2 q
  rw [hx] at hat2 hqc pq
  rw [hxc] at pcq
  rw [← hqO,← hqT,← hqV] at hnd
  rw [← hqO,← hqV] at hin
  rw [← hqO,← hqV] at hatq
  rw [← hqO] at pq
  have kqA:(AV.isl 14 qA).closed=true:=by have:=hqc;simp [AV.closed,AV.closedL] at this ⊢;exact this.1
  have kqC:(AV.isl 8 qCa).closed=true:=by have:=hqc;simp [AV.closed,AV.closedL] at this ⊢;exact this.2
  clear hx hxc hqO hqA hqT hqV hqS hqN
  have n1:bNot true=false:=by simp only [ee];rfl
  have n2:bNot false=true:=by simp only [ee];rfl
  generalize vty vs qV=vt at *
  generalize wQ ts vs q.cond=cd at *
  generalize F q=fq at *
  by_cases o0:qO=0∨qO=5
  · have _u:=o0
    rw [if_pos (by omega)] at hnd
    obtain ⟨nm,kat⟩:=hatq (by omega)
    have kat:atA evs qV=.agg [str nm,int vt]:=by simp only [ee];exact kat
    have kb:0≤qV∧qV<lenA evs:=by simp only [ee];rw [hev];exact hin (by omega)
    rw [show decide (qO=0∨qO=5∨qO=7)=true by simp;omega] at pq
    have q7:iNe qO 7=true:=by simp only [ee];simp;omega
    by_cases ht:qT=vt
    · rw [if_neg (by omega)] at hnd
      have nE:iNe qT vt=false:=by simp only [ee];simpa using ht
      by_cases hz:cd=0
      · have hgood:=hgood (by omega)
        have qc:iNe cd 0=false:=by simp only [ee];simpa using hz
        clear hbad
        have fz:=And.intro hc (And.intro hat2 (And.intro n1 (And.intro q7 (And.intro kat (And.intro nE qc)))))
        refine Cq ?_
        refine Cr ?_
        refine oPA pq ?_
        refine Cq ?_
        refine Cr ?_
        refine oC (fun c1=>?_) fun c1=>?_
        ·
         simp [ee] at c1
        simp [ee] at c1
        refine Aq ?_
        refine oPA pcq ?_
        refine Cq ?_
        refine Aq ?_
        refine zw (d++[q],r,iAdd .i64 i 1) ⟨by rw [g1];simp,hi2,hgood⟩ (by simp) (eS [.to 0,.gone] [some 0])
      have qc:iNe cd 0=true:=by simp only [ee];simpa using hz
      obtain ⟨e1,e2⟩:=hbad (by omega)
      rw [e1,e2,hnd]
      clear hgood
      have fz:=And.intro hc (And.intro hat2 (And.intro n1 (And.intro q7 (And.intro kat (And.intro nE qc)))))
      refine Cq ?_
      refine Cr ?_
      refine oPA pq ?_
      refine Cq ?_
      refine Cr ?_
      refine oC (fun c1=>?_) fun c1=>?_
      ·
       simp [ee] at c1
      simp [ee] at c1
      refine Aq ?_
      refine oPA pcq ?_
      refine Cq ?_
      refine Aq ?_
      refine zl ?_
      refine Aq ?_
      exact fE [.gone,.gone]
    rw [if_pos ht] at hnd
    have nE:iNe qT vt=true:=by simp only [ee];simpa using ht
    obtain ⟨e1,e2⟩:=hbad (by omega)
    rw [e1,e2,hnd]
    clear hgood pcq
    have fz:=And.intro hc (And.intro hat2 (And.intro n1 (And.intro q7 (And.intro kat nE))))
    refine Cq ?_
    refine Cr ?_
    refine oPA pq ?_
    refine Cq ?_
    refine Cr ?_
    refine oC (fun c1=>?_) fun c1=>?_
    ·
     simp [ee] at c1
     refine Aq ?_
     refine zl ?_
     refine Aq ?_
     exact fE [.gone,.gone]
    simp [ee] at c1
  rw [if_neg o0] at hnd
  clear hatq hin
  by_cases o7:qO=7
  · have q7:iNe qO 7=false:=by simp only [ee];simpa using o7
    rw [if_pos o7] at hnd
    rw [show decide (qO=0∨qO=5∨qO=7)=true by simp;omega] at pq
    by_cases hz:cd=0
    · have hgood:=hgood (by omega)
      have qc:iNe cd 0=false:=by simp only [ee];simpa using hz
      clear hbad
      have fz:=And.intro hc (And.intro hat2 (And.intro n1 (And.intro q7 qc)))
      refine Cq ?_
      refine Cr ?_
      refine oPA pq ?_
      refine Cq ?_
      refine uD rfl (fun c1=>absurd c1 (by decide)) (fun _=>?_)
      refine zH rfl hX 4 0 _ _ _ _ (by conv=>lhs;cbv) (by exact trivial) ?_
      refine zb rfl (by conv=>lhs;cbv) rfl ?_
      refine tgA ?_
      refine tgC ?_
      refine zy (.inl rfl) ?_
      refine zy (.inl rfl) ?_
      refine zy (.inl rfl) ?_
      refine zy (.inl rfl) ?_
      refine zy (.inl rfl) ?_
      refine zy (.inl rfl) ?_
      refine zy (.inl rfl) ?_
      refine zy (.inl rfl) ?_
      refine zy (.inl rfl) ?_
      refine tgA ?_
      refine zW ⟨rfl,by simp [za,zZ],?_⟩
      refine Aq ?_
      refine oPA pcq ?_
      refine Cq ?_
      refine Aq ?_
      refine zw (d++[q],r,iAdd .i64 i 1) ⟨by rw [g1];simp,hi2,hgood⟩ (by simp) (eS [.to 0,.gone] [some 0])
    have qc:iNe cd 0=true:=by simp only [ee];simpa using hz
    obtain ⟨e1,e2⟩:=hbad (by omega)
    rw [e1,e2,hnd]
    clear hgood
    have fz:=And.intro hc (And.intro hat2 (And.intro n1 (And.intro q7 qc)))
    refine Cq ?_
    refine Cr ?_
    refine oPA pq ?_
    refine Cq ?_
    refine uD rfl (fun c1=>absurd c1 (by decide)) (fun _=>?_)
    refine zH rfl hX 4 0 _ _ _ _ (by conv=>lhs;cbv) (by exact trivial) ?_
    refine zb rfl (by conv=>lhs;cbv) rfl ?_
    refine tgA ?_
    refine tgC ?_
    refine zy (.inl rfl) ?_
    refine zy (.inl rfl) ?_
    refine zy (.inl rfl) ?_
    refine zy (.inl rfl) ?_
    refine zy (.inl rfl) ?_
    refine zy (.inl rfl) ?_
    refine zy (.inl rfl) ?_
    refine zy (.inl rfl) ?_
    refine zy (.inl rfl) ?_
    refine tgA ?_
    refine zW ⟨rfl,by simp [za,zZ],?_⟩
    refine Aq ?_
    refine oPA pcq ?_
    refine Cq ?_
    refine Aq ?_
    refine zl ?_
    refine Aq ?_
    exact fE [.gone,.gone]
  rw [if_neg o7] at hnd
  rw [show decide (qO=0∨qO=5∨qO=7)=false by simp;omega] at pq
  have hgood:=hgood hnd
  clear hbad pcq
  have fz:=And.intro hc (And.intro hat2 n2)
  refine Cq ?_
  refine Cr ?_
  refine oPA pq ?_
  refine Cq ?_
  refine Aq ?_
  refine zw (d++[q],r,iAdd .i64 i 1) ⟨by rw [g1];simp,hi2,hgood⟩ (by simp) (eS [.to 0,.gone] [some 0])
noncomputable def rkE (ts:List Sch) (vs:List Vr) (e:Ex):Int:=(xR ts vs e).2
noncomputable def rkK (ts:List Sch) (vs:List Vr) (e:Ex):Int:=(xR ts vs e).1
def uS (l:List Ex):Int:=if l=[] then 15 else if 256<l.length then 5 else 0
noncomputable def wC (ts:List Sch) (x:Qy):Int :=
 if tpE ts x.vs x.pat≠0 then tpE ts x.vs x.pat else if uS x.rets≠0 then uS x.rets
 else if zm (rkE ts x.vs) x.rets≠0 then zm (rkE ts x.vs) x.rets else x.pat.rtE x.rets
noncomputable def w8 (ts:List Sch) (x:Qy):List Int:=if wC ts x≠0 then [] else x.rets.map (rkK ts x.vs)
noncomputable def w7 (ts:List Sch) (x:Qy):Int :=
 if z7 ts≠0 then z7 ts else if nmE x.nm≠0 then nmE x.nm else if tpE ts x.vs x.pat≠0 then tpE ts x.vs x.pat
 else if tkE ts x≠0 then tkE ts x else wC ts x
noncomputable def prgL (ts:List Sch):List Bs→Int→List Qy→Int × Int
 | _,_,[]=>(0,0)
 | s,i,x :: r=>if w7 ts x≠0 then (i,w7 ts x) else if x.nm∈s then (i,7) else prgL ts (s++[x.nm]) (i+1) r
noncomputable def uI (ts:List Sch) (qs:List Qy):Int × Int :=
 if z7 ts≠0 then (0,z7 ts) else if 16<qs.length then (0,5) else prgL ts [] 0 qs
theorem varsL_zero (ts:List Sch):∀ (r:List Vr) (s:List Bs),vV ts s r=0↔(∀ v∈r,nmE v.nm=0∧tyB ts v=true)∧(r.map Vr.nm).Nodup∧∀ v∈r,v.nm∉s
 | [],s=>by simp [vV]
 | v :: r,s=>by
  have ih:=varsL_zero ts r (s++[v.nm])
  rw [vV]
  by_cases h1:nmE v.nm≠0
  · rw [if_pos h1]
    constructor
    · intro h;exact absurd h h1
    rintro ⟨h,_⟩;exact (h v (by simp)).1
  rw [if_neg h1]
  by_cases h2:v.nm∈s
  · rw [if_pos h2];simp [h2]
  rw [if_neg h2]
  by_cases h3:tyB ts v=false
  · rw [if_pos h3];simp [h3]
  rw [if_neg h3,ih]
  constructor
  · rintro ⟨a,b,c⟩
    refine ⟨fun g hg=>?_,?_,fun g hg=>?_⟩
    · rcases List.mem_cons.1 hg with rfl | hg
      · exact ⟨by simpa using h1,by simpa using h3⟩
      exact a g hg
    · rw [List.map_cons,List.nodup_cons]
      refine ⟨fun h=>?_,b⟩
      obtain ⟨g,hg,e⟩:=List.mem_map.1 h
      exact c g hg (by simp [e])
    rcases List.mem_cons.1 hg with rfl | hg
    · exact h2
    intro h;exact c g hg (by simp [h])
  rintro ⟨a,b,c⟩
  rw [List.map_cons,List.nodup_cons] at b
  refine ⟨fun g hg=>a g (by simp [hg]),b.2,fun g hg h=>?_⟩
  rcases List.mem_append.1 h with h | h
  · exact c g (by simp [hg]) h
  simp at h
  exact b.1 (List.mem_map.2 ⟨g,hg,h⟩)
theorem varsE_R {ts:List Sch} {vs:List Vr} (h:wl ts vs=0):x6 ts vs=0:=by
 unfold wl at h
 split at h
 · cases h
 rename_i h1
 exact varsR_good h1 (List.all_eq_true.2 fun v hv=>(((varsL_zero ts vs []).1 h).1 v hv).2)
theorem vF {ts:List Sch} {vs:List Vr} (h:wm ts vs=0):z7 ts=0∧wl ts vs=0∧x6 ts vs=0:=by
 unfold wm at h
 split at h
 · rename_i h1;exact absurd h h1
 rename_i h1;exact ⟨by simpa using h1,h,varsE_R h⟩
theorem kindP_yes {ts:List Sch} {vs:List Vr} (h:wm ts vs=0):xR ts vs yesE=(1,0):=by
 obtain ⟨h1,_,h2⟩:=vF h
 rw [xR,if_neg (by simp [h1]),if_neg (by simp [h2]),if_neg (by simp [yes15_chk])]
 simp [yesE,Ex.kindK,wA]
structure Qy.Ok (x:Qy):Prop where
 vs:x.vs.length<1048577
 vn:∀ v∈x.vs,v.nm.length<1048577
 key:x.key.length<1048577
 pat:x.pat.Sm
 rets:∀ e∈x.rets,e.Sm
 rl:x.rets.length<1048577
 nm:x.nm.length<1048577
theorem Qy.closed (x:Qy):x.enc.closed=true:=by
 obtain ⟨pO,pA,pT,pV,pS,pN,pCo,pCa,pCv,pCf,pCk,pXk,pXn,pXt,he,hpe,kpA,kpC⟩:=Qy.form x
 rw [he]
 simp [wb,AV.closedL,xb,Vr.closedI,Ex.closedI,zx,kpA,kpC]
theorem Qy.one {x:Qy} {cs:List AV} (h:x.enc=.agg cs):cs.all AV.one=true:=by
 obtain ⟨pO,pA,pT,pV,pS,pN,pCo,pCa,pCv,pCf,pCk,pXk,pXn,pXt,he,hpe,kpA,kpC⟩:=Qy.form x
 rw [he] at h
 injection h with h
 subst h
 rfl
theorem Qy.closedL (l:List Qy):AV.closedL (mapE Qy.enc l)=true:=xZ Qy.closed l
theorem Qy.closedI (l:List Qy):(AV.isl 18 (mapE Qy.enc l)).closed=true:=by simp [AV.closed,Qy.closedL]
theorem enters_typecheck_Returns_3 : yr EE.P 68:=enters_of rfl (by decide) T68.2
theorem P_Returns1 (ts:List Sch) (x:Qy) {cs:List AV} (hp:x.enc=.agg cs) (hts:xW ts) (hx:x.Ok):PCall EL 66 [.iptr [.isl 2 (mapE Sch.enc ts)],.iptr cs] (.tup [int (tpI ts x.vs x.pat),int (tpE ts x.vs x.pat)]):=by
 have p1:=P_tcPattern ts x.vs x.pat hx.pat hts hx.vs hx.vn
 have kts:=Sch.closedI ts
 have kvs:=Vr.closedI x.vs
 have krs:=Ex.closedI x.rets
 have kks:=zx x.key
 obtain ⟨pO,pA,pT,pV,pS,pN,pCo,pCa,pCv,pCf,pCk,pXk,pXn,pXt,he,hpe,kpA,kpC⟩:=Qy.form x
 rw [he] at hp
 rw [hpe] at p1
 injection hp with hp
 subst hp
 generalize tpI ts x.vs x.pat=R1 at *
 generalize tpE ts x.vs x.pat=R2 at *
 generalize mapE Sch.enc ts=ets at *
 generalize mapE Vr.enc x.vs=evs at *
 generalize mapE Ex.enc x.rets=rs at *
 generalize mapE int x.key=es at *
 generalize ba x.nm=nm at *
 clear he hpe
 refine zr ?_;unhygienic intros
 refine fB T66 [.t 2,.t 3] ?_
 refine Aq ?_
 refine oPA p1 ?_
 refine Aq ?_
 exact fE []
theorem P_Returns2 (x:Qy) {cs:List AV} (hp:x.enc=.agg cs):PCall EL 67 [.iptr cs] (int (uS x.rets)):=by
 obtain ⟨pO,pA,pT,pV,pS,pN,pCo,pCa,pCv,pCf,pCk,pXk,pXn,pXt,he,hpe,kpA,kpC⟩:=Qy.form x
 rw [he] at hp
 injection hp with hp
 subst hp
 have hrl:(mapE Ex.enc x.rets).length=x.rets.length:=zq ..
 obtain ⟨R,hR⟩:∃ R,R=uS x.rets:=⟨_,rfl⟩
 rw [← hR]
 have h0:uS x.rets=if x.rets.length=0 then 15 else if 256<x.rets.length then 5 else 0:=by unfold uS;cases x.rets<;>simp
 rw [h0] at hR
 generalize x.rets.length=n at *
 generalize mapE Ex.enc x.rets=rs at *
 generalize mapE Vr.enc x.vs=evs at *
 generalize mapE int x.key=es at *
 generalize ba x.nm=nm at *
 clear he hpe h0
 refine zr ?_;unhygienic intros
 by_cases h1:n=0
 · have q1:iEq (lenA rs) 0=true:=by simp only [ee];rw [hrl];simpa using h1
   rw [if_pos h1] at hR
   rw [hR]
   refine fB T67 [.t 1] ?_
   have fz:=q1
   refine Cq ?_
   refine Aq ?_
   exact fV
 have q1:iEq (lenA rs) 0=false:=by simp only [ee];rw [hrl];simpa using h1
 rw [if_neg h1] at hR
 by_cases h2:256<n
 · have q2:iLt 256 (lenA rs)=true:=by simp only [ee];rw [hrl];simp;omega
   rw [if_pos h2] at hR
   rw [hR]
   refine fB T67 [.t 1] ?_
   have fz:=And.intro q1 q2
   refine Cq ?_
   refine Cr ?_
   refine Aq ?_
   exact fV
 have q2:iLt 256 (lenA rs)=false:=by simp only [ee];rw [hrl];simp;omega
 rw [if_neg h2] at hR
 rw [hR]
 refine fB T67 [.t 1] ?_
 have fz:=And.intro q1 q2
 refine Cq ?_
 refine Cr ?_
 refine Aq ?_
 exact fV
theorem P_Returns4 (x:Qy) {cs:List AV} (hp:x.enc=.agg cs) (hx:x.Ok):PCall EL 69 [.iptr cs] (.tup [int (x.pat.rtI x.rets),int (x.pat.rtE x.rets)]):=by
 have p1:=(P_Returns x.pat x.rets hx.pat hx.rets hx.rl).toL
 have kvs:=Vr.closedI x.vs
 have krs:=Ex.closedI x.rets
 have kks:=zx x.key
 obtain ⟨pO,pA,pT,pV,pS,pN,pCo,pCa,pCv,pCf,pCk,pXk,pXn,pXt,he,hpe,kpA,kpC⟩:=Qy.form x
 rw [he] at hp
 rw [hpe] at p1
 injection hp with hp
 subst hp
 generalize x.pat.rtI x.rets=R1 at *
 generalize x.pat.rtE x.rets=R2 at *
 generalize mapE Vr.enc x.vs=evs at *
 generalize mapE Ex.enc x.rets=rs at *
 generalize mapE int x.key=es at *
 generalize ba x.nm=nm at *
 clear he hpe
 refine zr ?_;unhygienic intros
 refine fB T69 [.t 1,.t 2] ?_
 refine Aq ?_
 refine oPA p1 ?_
 refine Aq ?_
 exact fE []
theorem C_Returns3 (ts:List Sch) (x:Qy) {cs:List AV} (hp:x.enc=.agg cs) (hts:xW ts) (hx:x.Ok) :
 ACall EL 68 [.iptr cs,.iptr [.isl 2 (mapE Sch.enc ts)],.ptr 0 0] [.cells [.val (.slice none 0 0)]]
  (fun v H'=>v=int (zm (rkE ts x.vs) x.rets)∧∃ u,H'=[.cells [u]]∧(zm (rkE ts x.vs) x.rets=0→u=.isl 1 (mapE int (x.rets.map (rkK ts x.vs))))∧u.closed=true):=by
 have hk:∀ e∈x.rets,PCall EL 46 [.isl 2 (mapE Sch.enc ts),.isl 2 (mapE Vr.enc x.vs),e.enc] (.tup [int (rkK ts x.vs e),int (rkE ts x.vs e)]):=fun e he=>(P_Kind ts x.vs e hts hx.vs (hx.rets e he)).toL
 have kts:=Sch.closedI ts
 have kvs:=Vr.closedI x.vs
 have krs:=Ex.closedI x.rets
 have kks:=zx x.key
 have hrl:=hx.rl
 obtain ⟨pO,pA,pT,pV,pS,pN,pCo,pCa,pCv,pCf,pCk,pXk,pXn,pXt,he,hpe,kpA,kpC⟩:=Qy.form x
 rw [he] at hp
 injection hp with hp
 subst hp
 obtain ⟨R,hR⟩:∃ R,R=zm (rkE ts x.vs) x.rets:=⟨_,rfl⟩
 rw [← hR]
 generalize rkE ts x.vs=F at *
 generalize rkK ts x.vs=K at *
 generalize x.rets=rets at *
 have hrn:(mapE Ex.enc rets).length=rets.length:=zq ..
 have hnil:mapE int []=[]:=by rw [zk];rfl
 generalize mapE Sch.enc ts=ets at *
 generalize mapE Vr.enc x.vs=evs at *
 generalize hes:mapE Ex.enc rets=es at *
 generalize mapE int x.key=key at *
 generalize ba x.nm=nm at *
 clear he hpe hx hts
 have k1:AV.closedL [.isl 2 ets]=true:=by simp [AV.closedL,kts]
 have k2:AV.closedL [str nm,.isl 2 evs,.isl 1 key,int pO,.isl 14 pA,int pT,int pV,int pS,int pN,int pCo,.isl 8 pCa,int pCv,int pCf,int pCk,int pXk,int pXn,str pXt,.isl 8 es]=true:=by simp [AV.closedL,xb,kvs,krs,kks,kpA,kpC]
 have k3:(AV.iptr [.isl 2 ets]).closed=true:=by rw [zd];exact k1
 have k4:(AV.iptr [str nm,.isl 2 evs,.isl 1 key,int pO,.isl 14 pA,int pT,int pV,int pS,int pN,int pCo,.isl 8 pCa,int pCv,int pCf,int pCk,int pXk,int pXn,str pXt,.isl 8 es]).closed=true:=by rw [zd];exact k2
 refine zr ?_;unhygienic intros
 refine rB T68 [.t 3] ?_
 show Holds EL 31 1 _ _ _ _ _
 refine Aq ?_
 refine zf (ι:=List Ex × List Ex × Int × Nat × List AV) (fun p=>([(11,int p.2.2.1),(10,int (lenA es)),(9,.isl 8 es),(2,.ptr 0 0),(1,.iptr [.isl 2 ets]),(0,.iptr [str nm,.isl 2 evs,.isl 1 key,int pO,.isl 14 pA,int pT,int pV,int pS,int pN,int pCo,.isl 8 pCa,int pCv,int pCf,int pCk,int pXk,int pXn,str pXt,.isl 8 es])],[.cells [.sl 1 1 0 p.2.2.2.1],.arr 1 p.2.2.2.2])) (fun p=>rets=p.1++p.2.1∧p.2.2.1=p.1.length∧p.2.2.2.1=p.2.2.2.2.length∧p.2.2.2.2=mapE int (p.1.map K)∧R=zm F p.2.1) (fun p=>p.2.1.length) ([],rets,0,0,[]) ⟨rfl,rfl,rfl,hnil.symm,hR⟩ ?_ ?_
 · exact (eN [.to 0] [some 0,none])
 rintro ⟨d,r,i,m,w⟩ ⟨g1,gi,gm,gw,gR⟩
 dsimp only at g1 gi gm gw gR ⊢
 have hcw:AV.closedL w=true:=by rw [gw];exact zU _
 cases r with
 | nil =>
  have L1:=zu g1
  try simp only [List.length] at L1
  have hc:iLt i (lenA es)=false:=yW e_iLt e_lenA (by omega)
  rw [List.append_nil] at g1
  rw [zm] at gR
  have hcwc:(AV.isl 1 w).closed=true:=by simpa [AV.closed] using hcw
  have hfin:.isl 1 w=AV.isl 1 (mapE int (rets.map K)):=by rw [gw,g1]
  rw [gR]
  have fz:=hc
  refine Cq ?_
  refine Aq ?_
  refine zo ?_
  refine Aq ?_
  refine xi (F2:=[(3,int 0)]) (H2:=[.cells [.isl 1 w]]) ?_ rfl ⟨rfl,_,rfl,fun _=>hfin,hcwc⟩
  exact (yR [.to 0,.isl 1 (w)] [some 0] ⟨rfl,trivial⟩ (by simp) (by simp) ⟨⟨by simp,rfl⟩,⟨_,rfl,(zp _ hcw).symm⟩,trivial⟩ ⟨ze (b:=0) rfl rfl rfl ⟨.of (yh rfl (by assumption)),trivial⟩,trivial⟩ ⟨.refl _,trivial⟩)
 | cons e r =>
  have L1:=zu g1
  try simp only [List.length] at L1
  have hc:iLt i (lenA es)=true:=yY e_iLt e_lenA (by omega)
  have hat:=zP e_atA hes g1 gi
  have hi2:iAdd .i64 i 1=((d++[e]).length:Int):=by rw [List.length_append];exact zJ e_iAdd gi (by omega)
  have hw2:catA (dropA w 0) (partA [int (K e)] 0 1)=mapE int ((d++[e]).map K):=by simp only [ee];rw [gw,zk,zk];simp
  have hcw2:AV.closedL (catA (dropA w 0) (partA [int (K e)] 0 1))=true:=by rw [hw2];exact zU _
  have hm2:addN m (lenN (partA [int (K e)] 0 1))=(catA (dropA w 0) (partA [int (K e)] 0 1)).length:=by simp only [ee];simp [gm]
  have pk:=hk e (by rw [g1];simp)
  have kec:=Ex.closed e
  rw [zm] at gR
  have hml:m=d.length:=by rw [gm,gw,zq];simp
  generalize K e=ke at *
  generalize F e=fe at *
  obtain ⟨eO,eA,eV,eF,eK,eXk,eXn,eXt,hxe⟩:=Ex.form e
  rw [hxe] at hat pk kec
  clear hk hR hxe
  have hmb:m<1048577:=by omega
  by_cases n1:fe=0
  · have q1:iNe fe 0=false:=by simp only [ee];simpa using n1
    rw [if_neg (by omega)] at gR
    have fz:=And.intro hc (And.intro hat q1)
    refine Cq ?_
    refine Cr ?_
    refine oPA pk ?_
    refine Cq ?_
    refine Aq ?_
    refine zw (d++[e],r,iAdd .i64 i 1,addN m (lenN (partA [int ke] 0 1)),catA (dropA w 0) (partA [int ke] 0 1)) ⟨by rw [g1];simp,hi2,hm2,hw2,gR⟩ (by simp) (eN [.to 0,.gone,.gone,.gone,.to 1] [some 0,some 4])
  have q1:iNe fe 0=true:=by simp only [ee];simpa using n1
  rw [if_pos n1] at gR
  rw [gR]
  have fz:=And.intro hc (And.intro hat q1)
  refine Cq ?_
  refine Cr ?_
  refine oPA pk ?_
  refine Cq ?_
  refine Aq ?_
  refine zl ?_
  refine Aq ?_
  refine xi (F2:=[(3,int fe)]) (H2:=[.cells [.undef]]) (eN [.to 0,.gone,.gone] [some 0]) rfl ⟨rfl,_,rfl,fun h=>absurd h n1,rfl⟩
theorem C_wholeA (g:FuncId) (q t:List AV) (u:AV) (hq:AV.closedL q=true) (ht:AV.closedL t=true) (hu:u.closed=true) :
 ACall EL 51 [.fn g [.iptr q,.iptr t,.ptr 0 0]] [.cells [u]] (fun v H'=>v=.agg [.fn 98 [.ptr 1 0]]∧H'=[.cells [u],.cells [.fn g [.iptr q,.iptr t,.ptr 0 0]],.cells [.fn 98 [.ptr 1 0]]]):=by
 have kq:(AV.iptr q).closed=true:=by rw [zd];exact hq
 have kt:(AV.iptr t).closed=true:=by rw [zd];exact ht
 have s0:∀ σ,AV.sub σ u=u:=fun σ=>zX _ _ _ (Nat.le_refl _) hu
 have s1:∀ σ,AV.sub σ (.iptr q)=.iptr q:=fun σ=>zX _ _ _ (Nat.le_refl _) kq
 have s2:∀ σ,AV.sub σ (.iptr t)=.iptr t:=fun σ=>zX _ _ _ (Nat.le_refl _) kt
 refine zr ?_;unhygienic intros
 refine rB T51 [.cell 2 1 true] ?_
 show Holds EL 5 1 _ _ _ _ _
 refine Aq ?_
 refine xi (F2:=[(2,.ptr 2 0)]) (H2:=[.cells [u],.cells [.fn g [.iptr q,.iptr t,.ptr 0 0]],.cells [.fn 98 [.ptr 1 0]]]) ?_ rfl ⟨rfl,rfl⟩
 exact (yR [.to 0,.to 1,.to 2] [some 0,some 1,some 2] ⟨rfl,trivial⟩ (by simp) (by simp) ⟨⟨by simp,rfl⟩,⟨by simp,rfl⟩,⟨by simp,rfl⟩,trivial⟩ ⟨.same 0 _ _ rfl rfl rfl (by show AObj.cells [AV.sub _ u]=_;rw [s0]),.same 1 _ _ rfl rfl rfl (by show AObj.cells [AV.fn g [AV.sub _ (.iptr q),AV.sub _ (.iptr t),_]]=_;rw [s1,s2];rfl),.same 2 _ _ rfl rfl rfl rfl,trivial⟩ ⟨.refl _,trivial⟩)
theorem C_whole1A {g:FuncId} {q t:List AV} {u:AV} {e:Int} {P:AV→Prop} (hq:AV.closedL q=true) (ht:AV.closedL t=true) (hu:u.closed=true) (hen:yr EL.P g)
 (h:ACall EL g [.iptr q,.iptr t,.ptr 0 0] [.cells [u]] (fun v H'=>v=int e∧∃ w,H'=[.cells [w]]∧P w)) (hP:∀ w,P w→w.closed=true) :
 ACall EL 98 [.ptr 1 0] [.cells [u],.cells [.fn g [.iptr q,.iptr t,.ptr 0 0]]] (fun v H'=>v=.tup [int 0,int e]∧∃ w,H'=[.cells [w],.cells [.fn g [.iptr q,.iptr t,.ptr 0 0]]]∧P w):=by
 have kq:(AV.iptr q).closed=true:=by rw [zd];exact hq
 have kt:(AV.iptr t).closed=true:=by rw [zd];exact ht
 have s0:∀ σ,AV.sub σ u=u:=fun σ=>zX _ _ _ (Nat.le_refl _) hu
 have s1:∀ σ,AV.sub σ (.iptr q)=.iptr q:=fun σ=>zX _ _ _ (Nat.le_refl _) kq
 have s2:∀ σ,AV.sub σ (.iptr t)=.iptr t:=fun σ=>zX _ _ _ (Nat.le_refl _) kt
 refine zr ?_;unhygienic intros
 refine rB T98 [.t 1,.t 2] ?_
 show Holds EL 5 2 _ _ _ _ _
 refine Aq ?_
 refine uz [0] rfl rfl rfl hen h (by decide) (by simp) (by show _=[AObj.cells [AV.sub _ u]];rw [s0]) (by show _=[AV.sub _ (.iptr q),AV.sub _ (.iptr t),_];rw [s1,s2];rfl) ?_
 rintro v0 H' ⟨rfl,w,rfl,hw⟩ -
 have s3:∀ σ,AV.sub σ w=w:=fun σ=>zX _ _ _ (Nat.le_refl _) (hP w hw)
 have hm:yX [.cells [u],.cells [.fn g [.iptr q,.iptr t,.ptr 0 0]]] [0] [.cells [w]]=[.cells [w],.cells [.fn g [.iptr q,.iptr t,.ptr 0 0]]]:=by
  show [AObj.cells [AV.sub _ w],_]=_
  rw [s3];rfl
 rw [hm]
 refine Aq ?_
 refine xi (F2:=[(1,int 0),(2,int e)]) (H2:=[.cells [w],.cells [.fn g [.iptr q,.iptr t,.ptr 0 0]]]) ?_ rfl ⟨rfl,w,rfl,hw⟩
 exact (yR [.to 0,.to 1] [some 0,some 1] ⟨rfl,rfl,trivial⟩ (by simp) (by simp) ⟨⟨by simp,rfl⟩,⟨by simp,rfl⟩,trivial⟩ ⟨.same 0 _ _ rfl rfl rfl (by show AObj.cells [AV.sub _ w]=_;rw [s3]),.same 1 _ _ rfl rfl rfl (by show AObj.cells [AV.fn g [AV.sub _ (.iptr q),AV.sub _ (.iptr t),_]]=_;rw [s1,s2];rfl),trivial⟩ ⟨.refl _,.refl _,trivial⟩)
theorem C_first4 (a b d:Prt) {g:FuncId} {q t:List AV} {u:AV} {e E:Int} {P:AV→Prop} (hq:AV.closedL q=true) (ht:AV.closedL t=true) (hu:u.closed=true) (hen:yr EL.P 98)
 (ka:AV.closedL a.cs=true) (kb:AV.closedL b.cs=true) (kd:AV.closedL d.cs=true)
 (ha:PCall EL a.g a.cs (.tup [int a.i,int a.e])) (hb:a.e=0→PCall EL b.g b.cs (.tup [int b.i,int b.e]))
 (hc:ACall EL 98 [.ptr 1 0] [.cells [u],.cells [.fn g [.iptr q,.iptr t,.ptr 0 0]]] (fun v H'=>v=.tup [int 0,int e]∧∃ w,H'=[.cells [w],.cells [.fn g [.iptr q,.iptr t,.ptr 0 0]]]∧(e=0→P w)∧w.closed=true))
 (hd:PCall EL d.g d.cs (.tup [int d.i,int d.e])) (hE:E=if a.e≠0 then a.e else if b.e≠0 then b.e else if e≠0 then e else d.e) :
 ACall EL 49 [.sl 2 1 0 4] [.cells [u],.cells [.fn g [.iptr q,.iptr t,.ptr 0 0]],.arr 1 [.agg [.fn a.g a.cs],.agg [.fn b.g b.cs],.agg [.fn 98 [.ptr 1 0]],.agg [.fn d.g d.cs]]]
  (fun v H'=>(∃ I,v=.tup [int I,int E])∧∃ w,H'=[.cells [w],.cells [.fn g [.iptr q,.iptr t,.ptr 0 0]],.arr 1 [.agg [.fn a.g a.cs],.agg [.fn b.g b.cs],.agg [.fn 98 [.ptr 1 0]],.agg [.fn d.g d.cs]]]∧(E=0→P w)∧w.closed=true):=by
 obtain ⟨ag,ac,ai,ae⟩:=a
 obtain ⟨bg,bc,bi,be⟩:=b
 obtain ⟨dg,dc,di,de⟩:=d
 dsimp only at *
 have kq:(AV.iptr q).closed=true:=by rw [zd];exact hq
 have kt:(AV.iptr t).closed=true:=by rw [zd];exact ht
 have s1:∀ σ,AV.sub σ (.iptr q)=.iptr q:=fun σ=>zX _ _ _ (Nat.le_refl _) kq
 have s2:∀ σ,AV.sub σ (.iptr t)=.iptr t:=fun σ=>zX _ _ _ (Nat.le_refl _) kt
 have ka2:(AV.fn ag ac).closed=true:=by rw [zA];exact ka
 have kb2:(AV.fn bg bc).closed=true:=by rw [zA];exact kb
 have kd2:(AV.fn dg dc).closed=true:=by rw [zA];exact kd
 have s3:∀ σ,AV.sub σ (.fn ag ac)=.fn ag ac:=fun σ=>zX _ _ _ (Nat.le_refl _) ka2
 have s4:∀ σ,AV.sub σ (.fn bg bc)=.fn bg bc:=fun σ=>zX _ _ _ (Nat.le_refl _) kb2
 have s5:∀ σ,AV.sub σ (.fn dg dc)=.fn dg dc:=fun σ=>zX _ _ _ (Nat.le_refl _) kd2
 have ho1:∀ σ,AObj.sub σ (.cells [.fn g [.iptr q,.iptr t,.ptr 0 0]])=.cells [.fn g [.iptr q,.iptr t,AV.sub σ (.ptr 0 0)]]:=fun σ=>by show AObj.cells [AV.fn g [AV.sub _ (.iptr q),AV.sub _ (.iptr t),_]]=_;rw [s1,s2]
 have ho2:∀ σ,AObj.sub σ (.arr 1 [.agg [.fn ag ac],.agg [.fn bg bc],.agg [.fn 98 [.ptr 1 0]],.agg [.fn dg dc]])=.arr 1 [.agg [.fn ag ac],.agg [.fn bg bc],.agg [.fn 98 [AV.sub σ (.ptr 1 0)]],.agg [.fn dg dc]]:=fun σ=>by show AObj.arr 1 [AV.agg [AV.sub _ (.fn ag ac)],AV.agg [AV.sub _ (.fn bg bc)],_,AV.agg [AV.sub _ (.fn dg dc)]]=_;rw [s3,s4,s5];rfl
 have k0:∀ (w:AV) (F F':AFr),(∀ σ,AV.sub σ w=w)→FWk 3 (ofL [.to 0,.to 1,.to 2]) F F'→Ent EL 25 3 F [.cells [w],.cells [.fn g [.iptr q,.iptr t,.ptr 0 0]],.arr 1 [.agg [.fn ag ac],.agg [.fn bg bc],.agg [.fn 98 [.ptr 1 0]],.agg [.fn dg dc]]] F' [.cells [w],.cells [.fn g [.iptr q,.iptr t,.ptr 0 0]],.arr 1 [.agg [.fn ag ac],.agg [.fn bg bc],.agg [.fn 98 [.ptr 1 0]],.agg [.fn dg dc]]]:=fun w F F' s0 hF =>
  yR [.to 0,.to 1,.to 2] [some 0,some 1,some 2] ⟨rfl,rfl,rfl,trivial⟩ (by simp) (by simp) ⟨⟨by simp,rfl⟩,⟨by simp,rfl⟩,⟨by simp,rfl⟩,trivial⟩ ⟨.same 0 _ _ rfl rfl rfl (by show AObj.cells [AV.sub _ w]=_;rw [s0]),.same 1 _ _ rfl rfl rfl (ho1 _),.same 2 _ _ rfl rfl rfl (ho2 _),trivial⟩ hF
 have k1:∀ (w:AV) (x:AObj) (F F':AFr),(∀ σ,AV.sub σ w=w)→FWk 3 (ofL [.to 0,.to 1,.to 2,.gone]) F F'→Ent EL 25 3 F [.cells [w],.cells [.fn g [.iptr q,.iptr t,.ptr 0 0]],.arr 1 [.agg [.fn ag ac],.agg [.fn bg bc],.agg [.fn 98 [.ptr 1 0]],.agg [.fn dg dc]],x] F' [.cells [w],.cells [.fn g [.iptr q,.iptr t,.ptr 0 0]],.arr 1 [.agg [.fn ag ac],.agg [.fn bg bc],.agg [.fn 98 [.ptr 1 0]],.agg [.fn dg dc]]]:=fun w x F F' s0 hF =>
  yR [.to 0,.to 1,.to 2,.gone] [some 0,some 1,some 2] ⟨rfl,rfl,rfl,trivial⟩ (by simp) (by simp) ⟨⟨by simp,rfl⟩,⟨by simp,rfl⟩,⟨by simp,rfl⟩,trivial,trivial⟩ ⟨.same 0 _ _ rfl rfl rfl (by show AObj.cells [AV.sub _ w]=_;rw [s0]),.same 1 _ _ rfl rfl rfl (ho1 _),.same 2 _ _ rfl rfl rfl (ho2 _),trivial⟩ hF
 refine zr ?_;unhygienic intros
 refine rB T49 [.t 2,.t 3] ?_
 show Holds EL 25 3 _ _ _ _ _
 have h4:iOf 4=4:=by simp only [ee];rfl
 have fz:=h4
 refine goC 60 ?_
 refine zf (ι:=Int × AV) (fun p=>([(10,int p.1),(9,int 4),(8,.sl 2 1 0 4)],[.cells [p.2],.cells [.fn g [.iptr q,.iptr t,.ptr 0 0]],.arr 1 [.agg [.fn ag ac],.agg [.fn bg bc],.agg [.fn 98 [.ptr 1 0]],.agg [.fn dg dc]]])) (fun p=>p.2.closed=true∧((p.1=0∧p.2=u)∨(p.1=1∧p.2=u∧ae=0)∨(p.1=2∧p.2=u∧ae=0∧be=0)∨(p.1=3∧P p.2∧ae=0∧be=0∧e=0)∨(p.1=4∧P p.2∧ae=0∧be=0∧e=0∧de=0))) (fun p=>(4 - p.1).toNat) (0,u) ⟨hu,.inl ⟨rfl,rfl⟩⟩ ?_ ?_
 · have s0:∀ σ,AV.sub σ u=u:=fun σ=>zX _ _ _ (Nat.le_refl _) hu
   exact (k0 _ _ _ s0 ⟨.refl _,.refl _,.refl _,trivial⟩)
 rintro ⟨k,w⟩ ⟨gw,gk⟩
 dsimp only at gw gk ⊢
 have s0:∀ σ,AV.sub σ w=w:=fun σ=>zX _ _ _ (Nat.le_refl _) gw
 rcases gk with ⟨rfl,rfl⟩ | ⟨rfl,rfl,g1⟩ | ⟨rfl,rfl,g1,g2⟩ | ⟨rfl,gp,g1,g2,g3⟩ | ⟨rfl,gp,g1,g2,g3,g4⟩
 · have c0:iLt 0 4=true:=by simp only [ee];rfl
   have c1:iAdd .i64 0 1=1:=by simp only [ee];rfl
   have hat:atN [.agg [.fn ag ac],.agg [.fn bg bc],.agg [.fn 98 [.ptr 1 0]],.agg [.fn dg dc]] (idxN 0 0)=.agg [.fn ag ac]:=by simp only [ee];rfl
   by_cases n0:ae=0
   · have q1:iNe ae 0=false:=by simp only [ee];simpa using n0
     have fz:=And.intro c0 (And.intro c1 (And.intro hat q1))
     refine Cq ?_
     refine Cr ?_
     refine xz (args:=ac) rfl rfl rfl rfl ha (by simp [ka]) ?_
     refine Cq ?_
     have fz:=c1
     refine goC 60 ?_
     refine zw (1,w) ⟨gw,.inr (.inl ⟨rfl,rfl,n0⟩)⟩ (by simp) (k1 _ _ _ _ s0 ⟨.refl _,.refl _,.refl _,trivial⟩)
   have q1:iNe ae 0=true:=by simp only [ee];simpa using n0
   have hE:E=ae:=by rw [hE];simp [n0]
   rw [hE]
   have fz:=And.intro c0 (And.intro c1 (And.intro hat q1))
   refine Cq ?_
   refine Cr ?_
   refine xz (args:=ac) rfl rfl rfl rfl ha (by simp [ka]) ?_
   refine Cq ?_
   refine Aq ?_
   refine zl ?_
   refine Aq ?_
   refine xi (F2:=[(2,int ai),(3,int ae)]) (H2:=[.cells [w],.cells [.fn g [.iptr q,.iptr t,.ptr 0 0]],.arr 1 [.agg [.fn ag ac],.agg [.fn bg bc],.agg [.fn 98 [.ptr 1 0]],.agg [.fn dg dc]]]) ?_ rfl ⟨⟨_,rfl⟩,w,rfl,fun h=>absurd h n0,gw⟩
   exact (k1 _ _ _ _ s0 ⟨.refl _,.refl _,trivial⟩)
 · have c0:iLt 1 4=true:=by simp only [ee];rfl
   have c1:iAdd .i64 1 1=2:=by simp only [ee];rfl
   have hat:atN [.agg [.fn ag ac],.agg [.fn bg bc],.agg [.fn 98 [.ptr 1 0]],.agg [.fn dg dc]] (idxN 0 1)=.agg [.fn bg bc]:=by simp only [ee];rfl
   by_cases n1:be=0
   · have q1:iNe be 0=false:=by simp only [ee];simpa using n1
     have fz:=And.intro c0 (And.intro c1 (And.intro hat q1))
     refine Cq ?_
     refine Cr ?_
     refine xz (args:=bc) rfl rfl rfl rfl (hb g1) (by simp [kb]) ?_
     refine Cq ?_
     have fz:=c1
     refine goC 60 ?_
     refine zw (2,w) ⟨gw,.inr (.inr (.inl ⟨rfl,rfl,g1,n1⟩))⟩ (by simp) (k1 _ _ _ _ s0 ⟨.refl _,.refl _,.refl _,trivial⟩)
   have q1:iNe be 0=true:=by simp only [ee];simpa using n1
   have hE:E=be:=by rw [hE];simp [g1,n1]
   rw [hE]
   have fz:=And.intro c0 (And.intro c1 (And.intro hat q1))
   refine Cq ?_
   refine Cr ?_
   refine xz (args:=bc) rfl rfl rfl rfl (hb g1) (by simp [kb]) ?_
   refine Cq ?_
   refine Aq ?_
   refine zl ?_
   refine Aq ?_
   refine xi (F2:=[(2,int bi),(3,int be)]) (H2:=[.cells [w],.cells [.fn g [.iptr q,.iptr t,.ptr 0 0]],.arr 1 [.agg [.fn ag ac],.agg [.fn bg bc],.agg [.fn 98 [.ptr 1 0]],.agg [.fn dg dc]]]) ?_ rfl ⟨⟨_,rfl⟩,w,rfl,fun h=>absurd h n1,gw⟩
   exact (k1 _ _ _ _ s0 ⟨.refl _,.refl _,trivial⟩)
 · have c0:iLt 2 4=true:=by simp only [ee];rfl
   have c1:iAdd .i64 2 1=3:=by simp only [ee];rfl
   have hat:atN [.agg [.fn ag ac],.agg [.fn bg bc],.agg [.fn 98 [.ptr 1 0]],.agg [.fn dg dc]] (idxN 0 2)=.agg [.fn 98 [.ptr 1 0]]:=by simp only [ee];rfl
   have fz:=And.intro c0 (And.intro c1 hat)
   refine Cq ?_
   refine Cr ?_
   refine uz [0,1] rfl rfl rfl hen hc (by decide) (by simp) (by show _=[AObj.cells [AV.sub _ w],AObj.sub _ (.cells [.fn g [.iptr q,.iptr t,.ptr 0 0]])];rw [s0,ho1];rfl) rfl ?_
   rintro v0 H' ⟨rfl,w2,rfl,hw,gw2⟩ -
   have s6:∀ σ,AV.sub σ w2=w2:=fun σ=>zX _ _ _ (Nat.le_refl _) gw2
   have hm:yX [.cells [w],.cells [.fn g [.iptr q,.iptr t,.ptr 0 0]],.arr 1 [.agg [.fn ag ac],.agg [.fn bg bc],.agg [.fn 98 [.ptr 1 0]],.agg [.fn dg dc]],.cells [.fn 98 [.ptr 1 0]]] [0,1] [.cells [w2],.cells [.fn g [.iptr q,.iptr t,.ptr 0 0]]]=[.cells [w2],.cells [.fn g [.iptr q,.iptr t,.ptr 0 0]],.arr 1 [.agg [.fn ag ac],.agg [.fn bg bc],.agg [.fn 98 [.ptr 1 0]],.agg [.fn dg dc]],.cells [.fn 98 [.ptr 1 0]]]:=by
    show [AObj.cells [AV.sub _ w2],AObj.sub _ (.cells [.fn g [.iptr q,.iptr t,.ptr 0 0]]),_,_]=_
    rw [s6,ho1];rfl
   rw [hm]
   by_cases n2:e=0
   · have q1:iNe e 0=false:=by simp only [ee];simpa using n2
     have fz:=And.intro c0 (And.intro c1 (And.intro hat q1))
     refine Cq ?_
     have fz:=c1
     refine goC 60 ?_
     refine zw (3,w2) ⟨gw2,.inr (.inr (.inr (.inl ⟨rfl,hw n2,g1,g2,n2⟩)))⟩ (by simp) (k1 _ _ _ _ s6 ⟨.refl _,.refl _,.refl _,trivial⟩)
   have q1:iNe e 0=true:=by simp only [ee];simpa using n2
   have hE:E=e:=by rw [hE];simp [g1,g2,n2]
   rw [hE]
   have fz:=And.intro c0 (And.intro c1 (And.intro hat q1))
   refine Cq ?_
   refine Aq ?_
   refine zl ?_
   refine Aq ?_
   refine xi (F2:=[(2,int 0),(3,int e)]) (H2:=[.cells [w2],.cells [.fn g [.iptr q,.iptr t,.ptr 0 0]],.arr 1 [.agg [.fn ag ac],.agg [.fn bg bc],.agg [.fn 98 [.ptr 1 0]],.agg [.fn dg dc]]]) ?_ rfl ⟨⟨_,rfl⟩,w2,rfl,fun h=>absurd h n2,gw2⟩
   exact (k1 _ _ _ _ s6 ⟨.refl _,.refl _,trivial⟩)
 · have c0:iLt 3 4=true:=by simp only [ee];rfl
   have c1:iAdd .i64 3 1=4:=by simp only [ee];rfl
   have hat:atN [.agg [.fn ag ac],.agg [.fn bg bc],.agg [.fn 98 [.ptr 1 0]],.agg [.fn dg dc]] (idxN 0 3)=.agg [.fn dg dc]:=by simp only [ee];rfl
   by_cases n3:de=0
   · have q1:iNe de 0=false:=by simp only [ee];simpa using n3
     have fz:=And.intro c0 (And.intro c1 (And.intro hat q1))
     refine Cq ?_
     refine Cr ?_
     refine xz (args:=dc) rfl rfl rfl rfl hd (by simp [kd]) ?_
     refine Cq ?_
     have fz:=c1
     refine goC 60 ?_
     refine zw (4,w) ⟨gw,.inr (.inr (.inr (.inr ⟨rfl,gp,g1,g2,g3,n3⟩)))⟩ (by simp) (k1 _ _ _ _ s0 ⟨.refl _,.refl _,.refl _,trivial⟩)
   have q1:iNe de 0=true:=by simp only [ee];simpa using n3
   have hE:E=de:=by rw [hE];simp [g1,g2,g3]
   rw [hE]
   have fz:=And.intro c0 (And.intro c1 (And.intro hat q1))
   refine Cq ?_
   refine Cr ?_
   refine xz (args:=dc) rfl rfl rfl rfl hd (by simp [kd]) ?_
   refine Cq ?_
   refine Aq ?_
   refine zl ?_
   refine Aq ?_
   refine xi (F2:=[(2,int di),(3,int de)]) (H2:=[.cells [w],.cells [.fn g [.iptr q,.iptr t,.ptr 0 0]],.arr 1 [.agg [.fn ag ac],.agg [.fn bg bc],.agg [.fn 98 [.ptr 1 0]],.agg [.fn dg dc]]]) ?_ rfl ⟨⟨_,rfl⟩,w,rfl,fun h=>absurd h n3,gw⟩
   exact (k1 _ _ _ _ s0 ⟨.refl _,.refl _,trivial⟩)
 have c0:iLt 4 4=false:=by simp only [ee];rfl
 have c1:iAdd .i64 4 1=5:=by simp only [ee];rfl
 have hE:E=0:=by rw [hE];simp [g1,g2,g3,g4]
 rw [hE]
 have fz:=And.intro c0 c1
 refine Cq ?_
 refine Aq ?_
 refine zo ?_
 refine Aq ?_
 refine xi (F2:=[(2,int 0),(3,int 0)]) (H2:=[.cells [w],.cells [.fn g [.iptr q,.iptr t,.ptr 0 0]],.arr 1 [.agg [.fn ag ac],.agg [.fn bg bc],.agg [.fn 98 [.ptr 1 0]],.agg [.fn dg dc]]]) ?_ rfl ⟨⟨_,rfl⟩,w,rfl,fun _=>gp,gw⟩
 exact (k0 _ _ _ s0 ⟨.refl _,.refl _,trivial⟩)
end Go.Am
end
