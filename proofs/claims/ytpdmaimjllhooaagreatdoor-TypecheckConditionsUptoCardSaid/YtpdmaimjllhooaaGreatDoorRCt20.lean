/- Contracts of the program's functions. -/
import Derived.Test.YtpdmaimjllhooaaGreatDoorProg
import Derived.Test.YtpdmaimjllhooaaGreatDoorRCt17
section
set_option maxHeartbeats 16000000
set_option maxRecDepth 100000
namespace Go.Am
open Go.Proofs
theorem P_ref15_Returns (p:Pat) (l:List Ex) (hs:p.Sm) (hl:∀ e∈l,e.Sm) (hn:l.length<1048577):PCall EE 71 [p.enc,.isl 8 (mapE Ex.enc l)] (.tup [int (p.rtI l),int (p.rtE l)]):=by
 have q1:=P_ref09_Check p hs
 have hcl:=Pat.closed p
 have hec:=Ex.closedI l
 by_cases hk:p.chk=0
 rotate_left
 · have hE:p.rtE l=p.chk:=by unfold Pat.rtE;rw [if_pos hk]
   have hI:p.rtI l=0:=by unfold Pat.rtI;rw [if_pos hk]
   rw [hE,hI]
   generalize mapE Ex.enc l=es at *
   generalize p.chk=er at *
   obtain ⟨pO,pA,pT,pV,pS,pN,pCo,pCa,pCv,pCf,pCk,pXk,pXn,pXt,hx,hxc,hpO,hpA,hpT,hpV,hpS,hpN⟩:=Pat.form2 p
   rw [hx] at q1 hcl ⊢
   clear hx hs hE hI
   refine zr ?_;unhygienic intros
   have kc:iNe er 0=true:=by simp only [ee];simpa using hk
   refine fB T71 [.t 4,.t 5] ?_
   refine Aq ?_
   refine oPA q1 ?_
   have fz:=kc
   refine Cq ?_
   refine Aq ?_
   exact fE [.gone]
 have hw:=ti hk
 have q2:=P_ref09_Bound p hs
 have q3:=P_ref15_Ones p hs hw
 have hq4:∀ e∈l,PCall EE 92 [e.enc] (int e.chk):=fun e he=>P_ref08_Check e (hl e he)
 have hq5:∀ e∈l,PCall EE 108 [e.enc,p.retP.enc] (int (e.fol p.retP)):=fun e he=>P_ref15_Follows p.retP (by have:=wu hw;show p.bound.length<_;omega) (by have:=wP hw;show p.ones.length<_;omega) e (hl e he)
 rw [hk] at q1
 have r1:=zx p.bound
 have r2:=zx p.ones
 have hrc:p.retP.enc=.agg [.isl 1 (mapE int p.bound),.isl 1 (mapE int p.ones),int (-1)]:=rfl
 rw [hrc] at hq5
 have hE:p.rtE l=if 256<l.length then 5 else zm (x8 p.retP) l:=by unfold Pat.rtE;rw [if_neg (fun k=>k hk)]
 have hI:p.rtI l=if 256<l.length then 0 else yg (x8 p.retP) l:=by unfold Pat.rtI;rw [if_neg (fun k=>k hk)]
 rw [hE,hI]
 clear hE hI hrc
 generalize p.retP=s at *
 generalize mapE int p.bound=A1 at *
 generalize mapE int p.ones=A2 at *
 have hcs:(AV.agg [.isl 1 A1,.isl 1 A2,int (-1)]).closed=true:=by simp [AV.closed,AV.closedL] at r1 r2 ⊢;exact ⟨r1,r2⟩
 obtain ⟨pO,pA,pT,pV,pS,pN,pCo,pCa,pCv,pCf,pCk,pXk,pXn,pXt,hx,hxc,hpO,hpA,hpT,hpV,hpS,hpN⟩:=Pat.form2 p
 rw [hx] at q1 q2 q3 hcl ⊢
 clear hx hs hw hk
 refine zr ?_;unhygienic intros
 generalize hes:mapE Ex.enc l=es at *
 have hel:es.length=l.length:=by rw [← hes,zq]
 have kc:iNe 0 0=false:=by simp only [ee];rfl
 by_cases h256:256<l.length
 · rw [if_pos h256,if_pos h256]
   have kl:iLt 256 (lenA es)=true:=by simp only [ee];simp;omega
   refine fB T71 [.t 4,.t 5] ?_
   refine Aq ?_
   refine oPA q1 ?_
   have fz:=And.intro kc kl
   refine Cq ?_
   refine Cr ?_
   refine Aq ?_
   exact fE [.gone]
 rw [if_neg h256,if_neg h256]
 have kl:iLt 256 (lenA es)=false:=by simp only [ee];simp;omega
 obtain ⟨R,hR⟩:∃ R,R=zm (x8 s) l:=⟨_,rfl⟩
 obtain ⟨J,hJ⟩:∃ J,J=yg (x8 s) l:=⟨_,rfl⟩
 rw [← hR,← hJ]
 have hJ2:J=if R≠0 then 0+yg (x8 s) l else 0:=by
  by_cases h:R=0
  · rw [if_neg (fun k=>k h),hJ,idx_zero (hR ▸ h)]
  rw [if_pos h,hJ];omega
 refine fB T71 [.t 4,.t 5] ?_
 refine Aq ?_
 refine oPA q1 ?_
 have fz:=And.intro kc kl
 refine Cq ?_
 refine Cr ?_
 refine Aq ?_
 refine zb rfl (by conv=>lhs;cbv) rfl ?_
 refine tgA ?_
 refine oPT q2 ?_
 refine tgA ?_
 refine oPT q3 ?_
 refine tgA ?_
 refine zW ⟨rfl,by simp [za,zZ],?_⟩
 refine Aq ?_
 refine zf (ι:=List Ex × List Ex × Int) (fun p=>([(8,int p.2.2),(1,.isl 8 es),(7,.ptr 0 0)],[.cells [.isl 1 A1,.isl 1 A2,int (-1)]])) (fun p=>l=p.1++p.2.1∧p.2.2=p.1.length∧R=zm (x8 s) p.2.1∧J=(if R≠0 then p.2.2+yg (x8 s) p.2.1 else 0)) (fun p=>p.2.1.length) ([],l,0) ⟨rfl,rfl,hR,hJ2⟩ ?_ ?_
 · exact (eS [.gone,.to 0] [some 1])
 rintro ⟨d,r,i⟩ ⟨g1,gi,gR,gJ⟩
 dsimp only at g1 gi gR gJ ⊢
 cases r with
 | nil =>
  have L1:=zu g1
  try simp only [List.length] at L1
  have hc:iLt i (lenA es)=false:=yW e_iLt e_lenA (by omega)
  have gR:R=0:=gR
  subst gR
  have gJ:J=0:=gJ
  subst gJ
  have fz:=hc
  refine Cq ?_
  refine Aq ?_
  refine zo ?_
  refine Aq ?_
  exact fE [.gone]
 | cons q r =>
  have L1:=zu g1
  try simp only [List.length] at L1
  have hc:iLt i (lenA es)=true:=yY e_iLt e_lenA (by omega)
  have hat:=zP e_atA hes g1 gi
  have hqm:q∈l:=by rw [g1];simp
  have q4:=hq4 q hqm
  have q5:=hq5 q hqm
  have hqc:=Ex.closed q
  have hi2:iAdd .i64 i 1=((d++[q]).length:Int):=by rw [List.length_append];exact zJ e_iAdd gi (by omega)
  obtain ⟨ck,eck⟩:∃ z,z=q.chk:=⟨_,rfl⟩
  obtain ⟨fq,efq⟩:∃ z,z=q.fol s:=⟨_,rfl⟩
  have hre:x8 s q=if ck≠0 then ck else fq:=by rw [eck,efq];rfl
  rw [← eck] at q4
  rw [← efq] at q5
  rw [zm,hre] at gR
  rw [yg,hre] at gJ
  clear eck efq hre
  obtain ⟨qO,qA,qV,qF,qK,qXk,qXn,qXt,hxq⟩:=Ex.form q
  rw [hxq] at hat hqc q4 q5
  by_cases h1:ck=0
  · subst h1
    have e1:(if (0:Int)≠0 then (0:Int) else fq)=fq:=if_neg (fun k=>k rfl)
    rw [e1] at gR gJ
    have w0:iEq 0 0=true:=by simp only [ee];rfl
    by_cases h2:fq=0
    · subst h2
      rw [if_neg (fun k=>k rfl)] at gR
      have e2:(if (0:Int)≠0 then (0:Int) else if zm (x8 s) r≠0 then yg (x8 s) r+1 else 0)=if zm (x8 s) r≠0 then yg (x8 s) r+1 else 0:=if_neg (fun k=>k rfl)
      rw [e2] at gJ
      have gJ2:J=if R≠0 then iAdd .i64 i 1+yg (x8 s) r else 0:=by
       rw [gJ]
       by_cases h:R=0
       · rw [if_neg (fun k=>k h),if_neg (fun k=>k h)]
       rw [if_pos h,if_pos h,if_pos (gR ▸ h),hi2,List.length_append];simp only [List.length_cons,List.length_nil];omega
      have fz:=And.intro hc (And.intro hat (And.intro w0 kc))
      refine Cq ?_
      refine Cr ?_
      refine oPA q4 ?_
      refine Cq ?_
      refine Cr ?_
      refine zb rfl (by conv=>lhs;cbv) rfl ?_
      refine tgC ?_
      refine oPT q5 ?_
      refine tgA ?_
      refine zW ⟨rfl,by simp [za,zZ],?_⟩
      refine Cq ?_
      refine Aq ?_
      refine zw (d++[q],r,iAdd .i64 i 1) ⟨by simp [g1],hi2,gR,gJ2⟩ (by simp) (eS [.to 0] [some 0])
    rw [if_pos h2] at gR
    subst gR
    rw [if_pos h2,if_pos h2,Int.add_zero] at gJ
    subst gJ
    have w1:iNe R 0=true:=by simp only [ee];simpa using h2
    have fz:=And.intro hc (And.intro hat (And.intro w0 w1))
    refine Cq ?_
    refine Cr ?_
    refine oPA q4 ?_
    refine Cq ?_
    refine oC (fun c1=>?_) fun c1=>?_
    ·
     simp [ee] at c1
    simp [ee] at c1
    refine Cq ?_
    refine zb rfl (by conv=>lhs;cbv) rfl ?_
    refine tgC ?_
    refine oPT q5 ?_
    refine tgA ?_
    refine zW ⟨rfl,by simp [za,zZ],?_⟩
    refine Cq ?_
    refine Aq ?_
    refine zl ?_
    refine Aq ?_
    exact fE [.gone]
  rw [if_pos h1,if_pos h1] at gR
  subst gR
  rw [if_pos h1,if_pos h1,if_pos h1,Int.add_zero] at gJ
  subst gJ
  have w0:iEq R 0=false:=by simp only [ee];simpa using h1
  have w1:iNe R 0=true:=by simp only [ee];simpa using h1
  have fz:=And.intro hc (And.intro hat (And.intro w0 w1))
  refine Cq ?_
  refine Cr ?_
  refine oPA q4 ?_
  refine Cq ?_
  refine Aq ?_
  refine zl ?_
  refine Aq ?_
  exact fE [.gone]
end Go.Am
end
