/- Contracts of the program's functions. -/
import Derived.Test.YtpdmaimjllhooaaGreatDoorProg
import Derived.Test.YtpdmaimjllhooaaGreatDoorRCt12
import Derived.Test.YtpdmaimjllhooaaGreatDoorCards
import Derived.Test.YtpdmaimjllhooaaGreatDoorRows
import Derived.Test.YtpdmaimjllhooaaGreatDoorTie
import Derived.Test.YtpdmaimjllhooaaGreatDoorRCt7
import Derived.Test.YtpdmaimjllhooaaGreatDoorRCt13
section
set_option maxHeartbeats 16000000
set_option maxRecDepth 100000
namespace Go.Am
open Go.Proofs
def Ex.few (e:Ex):Bool:=decide (e.cnt≤200) && decide (e.dep≤100)
def Pat.few (p:Pat):Bool:=decide (p.cnt≤150) && decide (p.dep≤60) && p.nodes.all (fun q=>q.cond.few)
theorem P_ref08_Few (e:Ex) (hs:e.Sm):PCall EE 12 [e.enc] (bool e.few):=by
 have h1:PCall EE 41 [e.enc,int 200] (int (e.tot 200)):=P_ref08_Count 200 (by omega) e hs
 have h2:=P_ref08_Depth e hs
 have hcl:=Ex.closed e
 obtain ⟨R,hR⟩:∃ R,R=e.few:=⟨_,rfl⟩
 rw [← hR]
 unfold Ex.few at hR
 have ht:=Ex.tot_iff e 200
 obtain ⟨eO,eA,eV,eF,eK,eXk,eXn,eXt,hx⟩:=Ex.form e
 rw [hx] at h1 h2 hcl ⊢
 refine zr ?_;unhygienic intros
 generalize ht1:(e.tot 200:Int)=tn at *
 generalize ht2:(e.dep:Int)=dn at *
 refine fB T12 [.t 2] ?_
 by_cases hc1:e.cnt≤200
 · have w1:iLe tn 200=true:=by simp only [ee];simp;omega
   by_cases hc2:e.dep≤100
   · have w2:iLe dn 100=true:=by simp only [ee];simp;omega
     have hR:R=true:=by rw [hR];simp [hc1,hc2]
     refine Aq ?_
     refine oPA h1 ?_
     have fz:=And.intro w1 w2
     refine Cq ?_
     refine Aq ?_
     refine oPG h2 ?_
     refine Aq ?_
     exact fBo (h:=by rw [w2,hR];simp [ee])
   have w2:iLe dn 100=false:=by simp only [ee];simp;omega
   have hR:R=false:=by rw [hR];simp [hc2]
   refine Aq ?_
   refine oPA h1 ?_
   have fz:=And.intro w1 w2
   refine Cq ?_
   refine Aq ?_
   refine oPG h2 ?_
   refine Aq ?_
   exact fBo (h:=by rw [w2,hR];simp [ee])
 have w1:iLe tn 200=false:=by simp only [ee];simp;omega
 have hR:R=false:=by rw [hR];simp [hc1]
 refine Aq ?_
 refine oPA h1 ?_
 have fz:=w1
 refine Cq ?_
 refine Aq ?_
 refine zi rfl rfl ?_
 refine Aq ?_
 exact fBo (h:=hR.symm)
theorem P_ref09_Few (p:Pat) (hs:p.Sm):PCall EE 94 [p.enc] (bool p.few):=by
 have h1:PCall EE 86 [p.enc,int 150] (int (p.tot 150)):=P_ref09_Total 150 (by omega) p hs
 have h2:=P_ref09_Depth p hs
 have h3:=yG p hs
 have hsn:=hs.node
 have hnl:=Pat.nodes_len p
 have hcn:=hs.1
 have hcl:=Pat.closed p
 have hcn2:=Pat.closedI p.nodes
 obtain ⟨R,hR⟩:∃ R,R=p.few:=⟨_,rfl⟩
 rw [← hR]
 unfold Pat.few at hR
 have ht:=Pat.tot_iff p 150
 obtain ⟨pO,pA,pT,pV,pS,pN,pCo,pCa,pCv,pCf,pCk,pXk,pXn,pXt,hx⟩:=Pat.form p
 rw [hx] at h1 h2 h3 hcl ⊢
 refine zr ?_;unhygienic intros
 generalize ht1:(p.tot 150:Int)=tn at *
 generalize ht2:(p.dep:Int)=dn at *
 generalize hnod:p.nodes=nl at *
 generalize hes:mapE Pat.enc nl=es at *
 have hel:es.length=nl.length:=by rw [← hes,zq]
 refine fB T94 [.t 2] ?_
 by_cases hc1:p.cnt≤150
 rotate_left
 · have w1:iLt 150 tn=true:=by simp only [ee];simp;omega
   have hR:R=false:=by rw [hR];simp [hc1]
   refine Aq ?_
   refine oPA h1 ?_
   have fz:=w1
   refine Cq ?_
   refine Aq ?_
   refine zi rfl rfl ?_
   refine Aq ?_
   exact fBo (h:=hR.symm)
 have w1:iLt 150 tn=false:=by simp only [ee];simp;omega
 by_cases hc2:p.dep≤60
 rotate_left
 · have w2:iLt 60 dn=true:=by simp only [ee];simp;omega
   have hR:R=false:=by rw [hR];simp [hc2]
   refine Aq ?_
   refine oPA h1 ?_
   have fz:=And.intro w1 w2
   refine Cq ?_
   refine Aq ?_
   refine oPG h2 ?_
   refine Cq ?_
   refine oC (fun c1=>?_) fun c1=>?_
   ·
    simp [ee] at c1
    refine Aq ?_
    exact fBo (h:=hR.symm)
   simp [ee] at c1
 have w2:iLt 60 dn=false:=by simp only [ee];simp;omega
 have hR:R=nl.all (fun q=>q.cond.few):=by rw [hR];simp [hc1,hc2]
 have hor:∀ b,bOr false b=b:=by simp [ee]
 refine Aq ?_
 refine oPA h1 ?_
 have fz:=And.intro w1 (And.intro w2 hor)
 refine Cq ?_
 refine Aq ?_
 refine oPG h2 ?_
 refine Cq ?_
 refine Aq ?_
 refine oPA h3 ?_
 refine Aq ?_
 refine zf (ι:=List Pat × List Pat × Int) (fun p=>([(3,.isl 14 es),(4,int p.2.2)],[])) (fun p=>nl=p.1++p.2.1∧p.2.2=p.1.length∧R=p.2.1.all (fun q=>q.cond.few)) (fun p=>p.2.1.length) ([],nl,0) ⟨rfl,rfl,hR⟩ ?_ ?_
 · exact (eS [.gone] [])
 rintro ⟨d,r,i⟩ ⟨g1,gi,gR⟩
 dsimp only at g1 gi gR ⊢
 cases r with
 | nil =>
  have L1:=zu g1
  try simp only [List.length] at L1
  have hc:iLt i (lenA es)=false:=yW e_iLt e_lenA (by omega)
  have gR:R=true:=by rw [gR];rfl
  have fz:=hc
  refine Cq ?_
  refine Aq ?_
  refine zo ?_
  refine Aq ?_
  exact fBo (h:=gR.symm)
 | cons q r =>
  have L1:=zu g1
  try simp only [List.length] at L1
  have hc:iLt i (lenA es)=true:=yY e_iLt e_lenA (by omega)
  have hat:=zP e_atA hes g1 gi
  have hqs:q.Sm:=hsn q (by rw [g1];simp)
  have hq:=P_ref08_Few q.cond hqs.cond'
  have hqc:=Ex.closed q.cond
  rw [List.all_cons] at gR
  obtain ⟨qO,qA,qT,qV,qS,qN,qCo,qCa,qCv,qCf,qCk,qXk,qXn,qXt,hx2,hx2c,hqO,hqA,hqT,hqV,hqS,hqN⟩:=Pat.form2 q
  rw [hx2c] at hq hqc
  rw [hx2] at hat
  have hi2:iAdd .i64 i 1=((d++[q]).length:Int):=by rw [List.length_append];exact zJ e_iAdd gi (by omega)
  cases hb:q.cond.few with
  | true =>
   rw [hb] at hq gR
   have hnt:bNot true=false:=by simp [ee]
   have fz:=And.intro hc (And.intro hat hnt)
   refine Cq ?_
   refine Cr ?_
   refine oPA hq ?_
   refine Cq ?_
   refine Aq ?_
   refine zw (d++[q],r,iAdd .i64 i 1) ⟨by simp [g1],hi2,by simpa using gR⟩ (by simp) (eS [] [])
  | false =>
   rw [hb] at hq gR
   have gR:R=false:=by simpa using gR
   have hnf:bNot false=true:=by simp [ee]
   have fz:=And.intro hc (And.intro hat hnf)
   refine Cq ?_
   refine Cr ?_
   refine oPA hq ?_
   refine Cq ?_
   refine Aq ?_
   refine zl ?_
   refine Aq ?_
   exact fBo (h:=gR.symm)
theorem P_Variables1 (ts:List Sch) (vs:List Vr) (hts:xW ts) (hvs:vs.length<1048577):PCall EE 91 [.isl 2 (mapE Sch.enc ts),.isl 2 (mapE Vr.enc vs)] (int (x6 ts vs)):=by
 have kts:=Sch.closedI ts
 have kvs:=Vr.closedI vs
 have htl:=hts.len
 obtain ⟨R,hR⟩:∃ R,R=x6 ts vs:=⟨_,rfl⟩
 rw [← hR]
 have hel:(mapE Sch.enc ts).length=ts.length:=zq ..
 have hev:(mapE Vr.enc vs).length=vs.length:=zq ..
 generalize mapE Sch.enc ts=ets at *
 generalize hes:mapE Vr.enc vs=evs at *
 refine zr ?_;unhygienic intros
 refine fB T91 [.t 4] ?_
 by_cases h16:16<vs.length
 · have k16:iLt 16 (lenA evs)=true:=by simp only [ee];simp;omega
   have hv5:x6 ts vs=5:=by rw [x6,if_pos h16]
   rw [hR,hv5]
   have fz:=k16
   refine Cq ?_
   refine Aq ?_
   exact fV
 have k16:iLt 16 (lenA evs)=false:=by simp only [ee];simp;omega
 have fz:=k16
 refine Cq ?_
 refine Cr ?_
 refine Aq ?_
 refine zf (ι:=List Vr × List Vr × Int) (fun p=>([(5,int p.2.2),(1,.isl 2 evs),(0,.isl 2 ets)],[])) (fun p=>vs=p.1++p.2.1∧p.2.2=p.1.length∧p.1.all (tyB ts)=true) (fun p=>p.2.1.length) ([],vs,0) ⟨rfl,rfl,rfl⟩ ?_ ?_
 · exact (eS [] [])
 rintro ⟨d,r,i⟩ ⟨g1,gi,ga⟩
 dsimp only at g1 gi ga ⊢
 cases r with
 | nil =>
  have L1:=zu g1
  try simp only [List.length] at L1
  have hc:iLt i (lenA evs)=false:=yW e_iLt e_lenA (by omega)
  rw [List.append_nil] at g1
  rw [← g1] at ga
  have hv0:=varsR_good h16 ga
  rw [hR,hv0]
  have fz:=hc
  refine Cq ?_
  refine Aq ?_
  refine zo ?_
  refine Aq ?_
  exact fV
 | cons v r =>
  have L1:=zu g1
  try simp only [List.length] at L1
  have hc:iLt i (lenA evs)=true:=yY e_iLt e_lenA (by omega)
  have hat:=zP e_atA hes g1 gi
  rw [Vr.enc_eq] at hat
  have hi2:iAdd .i64 i 1=((d++[v]).length:Int):=by rw [List.length_append];exact zJ e_iAdd gi (by omega)
  have hgood:tyB ts v=true→(d++[v]).all (tyB ts)=true:=fun e=>by rw [List.all_append,ga];simp [e]
  have hbad:tyB ts v=false→x6 ts vs=6:=varsR_bad h16 g1
  have htB:tyB ts v=decide (0≤v.ty∧v.ty<(ts.length:Int)):=rfl
  rw [htB] at hgood hbad
  clear htB
  generalize v.ty=ty at *
  generalize ba v.nm=nm at *
  by_cases n1:ty<0
  · have q1:iLt ty 0=true:=by simp only [ee];simpa using n1
    rw [hbad (by simp;omega)] at hR
    rw [hR]
    clear hgood
    have fz:=And.intro hc (And.intro hat q1)
    refine Cq ?_
    refine Cr ?_
    refine oC (fun c1=>?_) fun c1=>?_
    ·
     simp [ee] at c1
     refine Aq ?_
     refine zl ?_
     refine Aq ?_
     exact fV
    simp [ee] at c1
  have q1:iLt ty 0=false:=by simp only [ee];simpa using n1
  by_cases n2:(ts.length:Int)≤ty
  · have q2:iLe (lenA ets) ty=true:=by simp only [ee];simp;omega
    rw [hbad (by simp;omega)] at hR
    rw [hR]
    clear hgood
    have fz:=And.intro hc (And.intro hat (And.intro q1 q2))
    refine Cq ?_
    refine Cr ?_
    refine oC (fun c1=>?_) fun c1=>?_
    ·
     simp [ee] at c1
     refine Aq ?_
     refine zl ?_
     refine Aq ?_
     exact fV
    simp [ee] at c1
  have q2:iLe (lenA ets) ty=false:=by simp only [ee];simp;omega
  have hgood:=hgood (by simp;omega)
  clear hbad hR
  have fz:=And.intro hc (And.intro hat (And.intro q1 q2))
  refine Cq ?_
  refine Cr ?_
  refine oC (fun c1=>?_) fun c1=>?_
  ·
   simp [ee] at c1
  simp [ee] at c1
  refine Aq ?_
  refine zw (d++[v],r,iAdd .i64 i 1) ⟨by rw [g1];simp,hi2,hgood⟩ (by simp) (eS [] [])
theorem P_refKind (ts:List Sch) (vs:List Vr) (e:Ex) (hts:xW ts) (hvs:vs.length<1048577) (he:e.Sm):PCall EE 47 [.isl 2 (mapE Sch.enc ts),.isl 2 (mapE Vr.enc vs),e.enc] (.tup [int (xR ts vs e).1,int (xR ts vs e).2]):=by
 have p1:=P_refCheckAll ts (by have:=hts.len;omega) hts.sh
 have p4:=P_Variables1 ts vs hts hvs
 have p2:=P_ref08_Check e he
 have p3:x6 ts vs=0→e.chk=0→_:=fun h h2=>P_refkind ts vs (fun q a b c=>P_refleaf ts vs q hts.len hvs hts.fs (varsR_in h).2 a b c) (fun op l hl=>P_refoperands op l hl) (fun op=>P_result op) e he fun q hq=>Ex.chk_nn h2 q hq
 have kts:=Sch.closedI ts
 have kvs:=Vr.closedI vs
 have kec:=Ex.closed e
 obtain ⟨⟨R1,R2⟩,hR⟩:∃ R,R=xR ts vs e:=⟨_,rfl⟩
 rw [← hR]
 rw [xR] at hR
 generalize mapE Sch.enc ts=ets at *
 obtain ⟨ce,hce⟩:∃ z,z=z7 ts:=⟨_,rfl⟩
 rw [← hce] at p1 hR
 obtain ⟨ec,hec⟩:∃ z,z=e.chk:=⟨_,rfl⟩
 rw [← hec] at p2 p3 hR
 obtain ⟨ev,hev⟩:∃ z,z=x6 ts vs:=⟨_,rfl⟩
 rw [← hev] at p4 p3 hR
 obtain ⟨z1,hz1⟩:∃ z,z=(Ex.kindK ts vs e).1:=⟨_,rfl⟩
 obtain ⟨z2,hz2⟩:∃ z,z=(Ex.kindK ts vs e).2:=⟨_,rfl⟩
 have hz:Ex.kindK ts vs e=(z1,z2):=by rw [hz1,hz2]
 rw [hz] at p3 hR
 dsimp only at p3
 obtain ⟨eO,eA,eV,eF,eK,eXk,eXn,eXt,hx⟩:=Ex.form e
 rw [hx] at p2 p3 kec ⊢
 have keA:(AV.isl 8 eA).closed=true:=by have:=kec;simp [AV.closed,AV.closedL] at this ⊢;exact this
 generalize mapE Vr.enc vs=evs at *
 clear hx hec hce hz hz1 hz2 hev
 refine zr ?_;unhygienic intros
 have n0:iNe 0 0=false:=by simp only [ee];rfl
 refine fB T47 [.t 6,.t 7] ?_
 by_cases h1:ce=0
 rotate_left
 · rw [if_pos h1] at hR
   injection hR with hR1 hR2
   rw [hR1,hR2]
   have q1:iNe ce 0=true:=by simp only [ee];simpa using h1
   clear p2 p3 p4
   refine Aq ?_
   refine oPA p1 ?_
   have fz:=q1
   refine Cq ?_
   refine Aq ?_
   exact fE [.gone]
 rw [if_neg (by omega)] at hR
 rw [h1] at p1
 by_cases h3:ev=0
 rotate_left
 · rw [if_pos h3] at hR
   injection hR with hR1 hR2
   rw [hR1,hR2]
   have q1:iNe ev 0=true:=by simp only [ee];simpa using h3
   clear p2 p3
   refine Aq ?_
   refine oPA p1 ?_
   have fz:=And.intro n0 q1
   refine Cq ?_
   refine Aq ?_
   refine oPA p4 ?_
   refine Cq ?_
   refine Aq ?_
   exact fE [.gone]
 rw [if_neg (by omega)] at hR
 rw [h3] at p4
 by_cases h2:ec=0
 rotate_left
 · have q1:iNe ec 0=true:=by simp only [ee];simpa using h2
   rw [if_pos h2] at hR
   injection hR with hR1 hR2
   rw [hR1,hR2]
   clear p3
   refine Aq ?_
   refine oPA p1 ?_
   have fz:=And.intro n0 q1
   refine Cq ?_
   refine Aq ?_
   refine oPA p4 ?_
   refine Cq ?_
   refine Aq ?_
   refine oPA p2 ?_
   refine Cq ?_
   refine Aq ?_
   exact fE [.gone]
 rw [if_neg (by omega)] at hR
 replace p3:=p3 h3 h2
 rw [h2] at p2
 injection hR with hR1 hR2
 rw [hR1,hR2]
 refine Aq ?_
 refine oPA p1 ?_
 have fz:=n0
 refine Cq ?_
 refine Aq ?_
 refine oPA p4 ?_
 refine Cq ?_
 refine Aq ?_
 refine oPA p2 ?_
 refine Cq ?_
 refine Aq ?_
 refine oPA p3 ?_
 refine Aq ?_
 exact fE [.gone]
theorem P_refCondition (ts:List Sch) (vs:List Vr) (e:Ex) (hts:xW ts) (hvs:vs.length<1048577) (he:e.Sm):PCall EE 15 [.isl 2 (mapE Sch.enc ts),.isl 2 (mapE Vr.enc vs),e.enc] (int (wQ ts vs e)):=by
 have p1:=P_refKind ts vs e hts hvs he
 have kts:=Sch.closedI ts
 have kvs:=Vr.closedI vs
 have kec:=Ex.closed e
 obtain ⟨R,hR⟩:∃ R,R=wQ ts vs e:=⟨_,rfl⟩
 rw [← hR]
 rw [wQ] at hR
 generalize (xR ts vs e).1=z1 at *
 generalize (xR ts vs e).2=z2 at *
 generalize mapE Sch.enc ts=ets at *
 generalize mapE Vr.enc vs=evs at *
 obtain ⟨eO,eA,eV,eF,eK,eXk,eXn,eXt,hx⟩:=Ex.form e
 rw [hx] at p1 kec ⊢
 clear hx
 refine zr ?_;unhygienic intros
 refine fB T15 [.t 6] ?_
 refine Aq ?_
 refine oPA p1 ?_
 refine goA 0 ?_
 refine oC (fun c1=>?_) fun c1=>?_
 ·
  simp [ee] at c1
  refine Aq ?_
  exact fI (h:=by rw [hR];(repeat' split)<;>first | rfl | omega)
 simp [ee] at c1
 refine goA 0 ?_
 refine oC (fun c2=>?_) fun c2=>?_
 ·
  simp [ee] at c2
  refine Aq ?_
  exact fI (h:=by rw [hR];(repeat' split)<;>first | rfl | omega)
 simp [ee] at c2
 refine Aq ?_
 exact fI (h:=by rw [hR];(repeat' split)<;>first | rfl | omega)
end Go.Am
end
