/- Contracts of the program's functions. -/
import Derived.Test.YtpdmaimjllhooaaGreatDoorProg
import Derived.Test.YtpdmaimjllhooaaGreatDoorPCt11
import Derived.Test.YtpdmaimjllhooaaGreatDoorPCt9
section
set_option maxHeartbeats 16000000
set_option maxRecDepth 100000
namespace Go.Am
open Go.Proofs
def Ex.few (e:Ex):Bool:=decide (e.cnt≤200) && decide (e.dep≤100)
def Pat.few (p:Pat):Bool:=decide (p.cnt≤150) && decide (p.dep≤60) && p.nodes.all (fun q=>q.cond.few)
theorem P_ref08_Few (e:Ex) (hs:e.Sm):PCall EE 12 [e.enc] (bool e.few):=by
 have h1:PCall EE 41 [e.enc,int 200] (int (e.tot 200)):=P_ref08_Count 200 (by omega) e hs
 have h2:=P_ref08_Depth e hs
 have hcl:=Ex.closed e
 obtain ⟨R,hR⟩:∃ R,R=e.few:=⟨_,rfl⟩
 rw [← hR]
 unfold Ex.few at hR
 have ht:=Ex.tot_iff e 200
 obtain ⟨eO,eA,eV,eF,eK,eXk,eXn,eXt,hx⟩:=Ex.form e
 rw [hx] at h1 h2 hcl ⊢
 refine zt ?_;unhygienic intros
 generalize ht1:(e.tot 200:Int)=tn at *
 generalize ht2:(e.dep:Int)=dn at *
 refine fB T12 [.t 2] ?_
 by_cases hc1:e.cnt≤200
 · have w1:iLe tn 200=true:=by simp only [ee];simp;omega
   by_cases hc2:e.dep≤100
   · have w2:iLe dn 100=true:=by simp only [ee];simp;omega
     have hR:R=true:=by rw [hR];simp [hc1,hc2]
     refine Aq ?_
     refine oPA h1 ?_
     have fz:=And.intro w1 w2
     refine Cq ?_
     refine Aq ?_
     refine oPG h2 ?_
     refine Aq ?_
     exact fBo (h:=by rw [w2,hR];simp [ee])
   have w2:iLe dn 100=false:=by simp only [ee];simp;omega
   have hR:R=false:=by rw [hR];simp [hc2]
   refine Aq ?_
   refine oPA h1 ?_
   have fz:=And.intro w1 w2
   refine Cq ?_
   refine Aq ?_
   refine oPG h2 ?_
   refine Aq ?_
   exact fBo (h:=by rw [w2,hR];simp [ee])
 have w1:iLe tn 200=false:=by simp only [ee];simp;omega
 have hR:R=false:=by rw [hR];simp [hc1]
 refine Aq ?_
 refine oPA h1 ?_
 have fz:=w1
 refine Cq ?_
 refine Aq ?_
 refine zg rfl rfl ?_
 refine Aq ?_
 exact fBo (h:=hR.symm)
theorem P_ref09_Few (p:Pat) (hs:p.Sm):PCall EE 94 [p.enc] (bool p.few):=by
 have h1:PCall EE 86 [p.enc,int 150] (int (p.tot 150)):=P_ref09_Total 150 (by omega) p hs
 have h2:=P_ref09_Depth p hs
 have h3:=P_ref09_Nodes p hs
 have hsn:=hs.node
 have hnl:=Pat.nodes_len p
 have hcn:=hs.1
 have hcl:=Pat.closed p
 have hcn2:=Pat.closedI p.nodes
 obtain ⟨R,hR⟩:∃ R,R=p.few:=⟨_,rfl⟩
 rw [← hR]
 unfold Pat.few at hR
 have ht:=Pat.tot_iff p 150
 obtain ⟨pO,pA,pT,pV,pS,pN,pCo,pCa,pCv,pCf,pCk,pXk,pXn,pXt,hx⟩:=Pat.form p
 rw [hx] at h1 h2 h3 hcl ⊢
 refine zt ?_;unhygienic intros
 generalize ht1:(p.tot 150:Int)=tn at *
 generalize ht2:(p.dep:Int)=dn at *
 generalize hnod:p.nodes=nl at *
 generalize hes:mapE Pat.enc nl=es at *
 have hel:es.length=nl.length:=by rw [← hes,zr]
 refine fB T94 [.t 2] ?_
 by_cases hc1:p.cnt≤150
 rotate_left
 · have w1:iLt 150 tn=true:=by simp only [ee];simp;omega
   have hR:R=false:=by rw [hR];simp [hc1]
   refine Aq ?_
   refine oPA h1 ?_
   have fz:=w1
   refine Cq ?_
   refine Aq ?_
   refine zg rfl rfl ?_
   refine Aq ?_
   exact fBo (h:=hR.symm)
 have w1:iLt 150 tn=false:=by simp only [ee];simp;omega
 by_cases hc2:p.dep≤60
 rotate_left
 · have w2:iLt 60 dn=true:=by simp only [ee];simp;omega
   have hR:R=false:=by rw [hR];simp [hc2]
   refine Aq ?_
   refine oPA h1 ?_
   have fz:=And.intro w1 w2
   refine Cq ?_
   refine Aq ?_
   refine oPG h2 ?_
   refine Cq ?_
   refine oC (fun c1=>?_) fun c1=>?_
   ·
    simp [ee] at c1
    refine Aq ?_
    exact fBo (h:=hR.symm)
   simp [ee] at c1
 have w2:iLt 60 dn=false:=by simp only [ee];simp;omega
 have hR:R=nl.all (fun q=>q.cond.few):=by rw [hR];simp [hc1,hc2]
 have hor:∀ b,bOr false b=b:=by simp [ee]
 refine Aq ?_
 refine oPA h1 ?_
 have fz:=And.intro w1 (And.intro w2 hor)
 refine Cq ?_
 refine Aq ?_
 refine oPG h2 ?_
 refine Cq ?_
 refine Aq ?_
 refine oPA h3 ?_
 refine Aq ?_
 refine za (ι:=List Pat × List Pat × Int) (fun p=>([(3,.isl 14 es),(4,int p.2.2)],[])) (fun p=>nl=p.1++p.2.1∧p.2.2=p.1.length∧R=p.2.1.all (fun q=>q.cond.few)) (fun p=>p.2.1.length) ([],nl,0) ⟨rfl,rfl,hR⟩ ?_ ?_
 · exact (eS [.gone] [])
 rintro ⟨d,r,i⟩ ⟨g1,gi,gR⟩
 dsimp only at g1 gi gR ⊢
 cases r with
 | nil =>
  have L1:=zw g1
  try simp only [List.length] at L1
  have hc:iLt i (lenA es)=false:=xg e_iLt e_lenA (by omega)
  have gR:R=true:=by rw [gR];rfl
  have fz:=hc
  refine Cq ?_
  refine Aq ?_
  refine zl ?_
  refine Aq ?_
  exact fBo (h:=gR.symm)
 | cons q r =>
  have L1:=zw g1
  try simp only [List.length] at L1
  have hc:iLt i (lenA es)=true:=xf e_iLt e_lenA (by omega)
  have hat:=z7 e_atA hes g1 gi
  have hqs:q.Sm:=hsn q (by rw [g1];simp)
  have hq:=P_ref08_Few q.cond hqs.cond'
  have hqc:=Ex.closed q.cond
  rw [List.all_cons] at gR
  obtain ⟨qO,qA,qT,qV,qS,qN,qCo,qCa,qCv,qCf,qCk,qXk,qXn,qXt,hx2,hx2c,hqO,hqA,hqT,hqV,hqS,hqN⟩:=Pat.form2 q
  rw [hx2c] at hq hqc
  rw [hx2] at hat
  have hi2:iAdd .i64 i 1=((d++[q]).length:Int):=by rw [List.length_append];exact yq e_iAdd gi (by omega)
  cases hb:q.cond.few with
  | true =>
   rw [hb] at hq gR
   have hnt:bNot true=false:=by simp [ee]
   have fz:=And.intro hc (And.intro hat hnt)
   refine Cq ?_
   refine Cr ?_
   refine oPA hq ?_
   refine Cq ?_
   refine Aq ?_
   refine zp (d++[q],r,iAdd .i64 i 1) ⟨by simp [g1],hi2,by simpa using gR⟩ (by simp) (eS [] [])
  | false =>
   rw [hb] at hq gR
   have gR:R=false:=by simpa using gR
   have hnf:bNot false=true:=by simp [ee]
   have fz:=And.intro hc (And.intro hat hnf)
   refine Cq ?_
   refine Cr ?_
   refine oPA hq ?_
   refine Cq ?_
   refine Aq ?_
   refine zi ?_
   refine Aq ?_
   exact fBo (h:=gR.symm)
end Go.Am
end
