/- Contracts of the program's functions. -/
import Derived.Test.YtpfnahcfnclgdaaGreatDoorProg
import Derived.Test.YtpfnahcfnclgdaaGreatDoorPCt16
noncomputable section
set_option maxHeartbeats 16000000
set_option maxRecDepth 100000
namespace Go.Am
open Go.Proofs
theorem jn_seq (p:Pat) (hs:p.Sm) (hc:p.chk=0) (h1:p.op=1):zl EE 133 0 (vC [.t 2] (bool true)) (.code (yp 6 T6.1)) [] [(6,int 0),(5,bool p.whl),(4,.ptr 1 0),(3,.isl 14 (zy Pat.enc p.pre)),(2,bool false),(1,.ptr 0 0)] [.cells p.enc.cells,.cells p.rst.enc.cells]:=by
 obtain ⟨hl64,h2⟩:=sJ hc
 have h2:=h2 h1
 obtain ⟨e1,e2,e3,e4⟩:=sq h1
 have hle:=t7 p.args
 have hall:=seq_all h1 h2
 have hrst:=seq_rst h1 h2
 have hleft:=seq_left h1
 have hatn:=nEv_at p.args
 rw [← e2] at hatn hle
 have hpl:(zy Pat.enc p.pre).length=p.pre.length:=zp Pat.enc p.pre
 have q2:=P_awake32
 have q5:=P_SamePatterns p.args p.args (fun q hq=>hs.arg' hq) (by omega)
 rw [yD] at q5
 have kp:=Pat.closed p
 have kr:=Pat.closed p.rst
 have kl:=Pat.closedI p.pre
 have kll:=Pat.closedL' p.pre
 have fl:=sV p.pre
 have ka:=Pat.closedI p.args
 have hel:=fun (k:Nat) (z:Pat) (hz:p.args[k]? = some z)=>show (zy Pat.enc p.args).getD k .undef=z.enc by rw [zu];simp [List.getD_eq_getElem?_getD,List.getElem?_map,hz]
 have hallE:zy Pat.enc p.all=zy Pat.enc p.args:=by rw [hall]
 have hal:(zy Pat.enc p.args).length=p.args.length:=zp Pat.enc p.args
 have hr1:p.whl=false→1<p.args.length - p.pre.length→p.rst.op=1∧zy Pat.enc p.pre++zy Pat.enc p.rst.args=zy Pat.enc p.args∧AV.closedL (zy Pat.enc p.rst.args)=true∧wK 14 (zy Pat.enc p.rst.args)=true∧(zy Pat.enc p.rst.args).length=p.args.length - p.pre.length:=by
  intro hw hl
  obtain ⟨g1,g2⟩:=hrst hw hl
  refine ⟨g1,?_,Pat.closedL' _,sV _,by rw [zp,g2,List.length_drop]⟩
  rw [← hallE,Pat.all,hw,if_neg (by decide),if_pos hl,zu,zu,zu,List.map_append]
 have hr2:p.whl=false→¬ 1<p.args.length - p.pre.length→zy Pat.enc p.pre++[p.rst.enc]=zy Pat.enc p.args:=by
  intro hw hl
  rw [← hallE,Pat.all,hw,if_neg (by decide),if_neg hl,zu,zu,List.map_append];rfl
 have hr3:p.whl=true→zy Pat.enc p.pre=zy Pat.enc p.args:=by
  intro hw
  rw [← hallE,Pat.all,hw,if_pos rfl]
 have hop:∀ q,p.args[p.pre.length]? = some q→q.op≠0:=hatn
 have hplen:p.pre.length≤p.args.length:=hle
 clear hall hrst hatn hallE e1 e2 e3 e4 hs hle
 generalize hM:p.args.length=M at *
 generalize hN:p.pre.length=N at *
 generalize p.whl=wb at *
 generalize hP:zy Pat.enc p.pre=es at *
 have hzx:∀ k:Nat,k<M→∃ z:Pat,p.args[k]? = some z:=fun k hk=>⟨_,List.getElem?_eq_getElem (by omega)⟩
 obtain ⟨pO,pA,pT,pV,pS,pN,pCo,pCa,pCv,pCf,pCk,pXk,pXn,pXt,hx,hxc,hpO,hpA,hpT,hpV,hpS,hpN⟩:=Pat.form2 p
 generalize hr:p.rst=r at *
 obtain ⟨rO,rA,rT,rV,rS,rN,rCo,rCa,rCv,rCf,rCk,rXk,rXn,rXt,hxr,hxrc,hrO,hrA,hrT,hrV,hrS,hrN⟩:=Pat.form2 r
 rw [hx] at kp ⊢
 rw [hxr] at kr hr2 ⊢
 rw [← hpA] at q5 ka hel hr1 hr2 hr3 hal
 rw [← hrA,← hrO] at hr1
 have kpl:AV.closedL [int pO,.isl 14 pA,int pT,int pV,int pS,int pN,int pCo,.isl 8 pCa,int pCv,int pCf,int pCk,int pXk,int pXn,str pXt]=true:=by simpa only [AV.closed] using kp
 have krl:AV.closedL [int rO,.isl 14 rA,int rT,int rV,int rS,int rN,int rCo,.isl 8 rCa,int rCv,int rCf,int rCk,int rXk,int rXn,str rXt]=true:=by simpa only [AV.closed] using kr
 have kal:AV.closedL pA=true:=by simpa only [AV.closed] using ka
 dsimp only [AV.cells]
 refine zo ?_;unhygienic intros
 have a1:addN 0 (lenN es)=N:=by simp only [ee];omega
 have a2:catA (dropA [] 0) es=es:=by simp only [ee];simp
 obtain ⟨lf,hlf⟩:∃ x,x=(M:Int) - N:=⟨_,rfl⟩
 have a3:iSub .i64 (lenA pA) (lenA es)=lf:=by simp only [ee];simp [IntKind.wrap_i64];omega
 refine vX (a:=vV (yp 6 T6.1)) (b:=yp 7 T6.1) ?_
 refine wp [(8,.sl 2 14 0 N),(5,bool wb),(4,.ptr 1 0),(3,.isl 14 es),(2,bool false),(1,.ptr 0 0)] [.cells [int pO,.isl 14 pA,int pT,int pV,int pS,int pN,int pCo,.isl 8 pCa,int pCv,int pCf,int pCk,int pXk,int pXn,str pXt],.cells [int rO,.isl 14 rA,int rT,int rV,int rS,int rN,int rCo,.isl 8 rCa,int rCv,int rCf,int rCk,int rXk,int rXn,str rXt],.arr 14 es] ?_ ?_
 · have fz:=And.intro a1 a2
   refine Cq ?_
   refine ⟨rfl,ya [.to 0,.to 1,.gone,.to 2] [some 0,some 1,some 3] ⟨⟨by simp,rfl⟩,⟨by simp,rfl⟩,trivial,⟨by simp,rfl⟩,trivial⟩ ⟨zx (b:=0) rfl rfl rfl (by rw [zw _ kpl];exact WkL.refl _ _),zx (b:=1) rfl rfl rfl (by rw [zw _ krl];exact WkL.refl _ _),zR (b:=3) rfl rfl rfl rfl kll,trivial⟩ ⟨.refl _,.refl _,.refl _,.cl kl,.refl _,.refl _,trivial⟩⟩
 show zl EE 133 0 (vC [.t 2] (bool true)) (.code (yp 7 T6.1)) [] _ _
 refine vX (a:=vV (yp 7 T6.1)) (b:=yp 8 T6.1) ?_
 refine wp [(9,int lf),(8,.sl 2 14 0 N),(5,bool wb),(4,.ptr 1 0),(3,.isl 14 es),(2,bool false),(1,.ptr 0 0)] [.cells [int pO,.isl 14 pA,int pT,int pV,int pS,int pN,int pCo,.isl 8 pCa,int pCv,int pCf,int pCk,int pXk,int pXn,str pXt],.cells [int rO,.isl 14 rA,int rT,int rV,int rS,int rN,int rCo,.isl 8 rCa,int rCv,int rCf,int rCk,int rXk,int rXn,str rXt],.arr 14 es] ?_ ?_
 · have fz:=a3
   refine Cq ?_
   exact ⟨rfl,yz ⟨.refl _,.refl _,.refl _,.refl _,.refl _,.refl _,.refl _,trivial⟩⟩
 show zl EE 133 0 (vC [.t 2] (bool true)) (.code (yp 8 T6.1)) [] _ _
 refine vX (a:=vV (yp 8 T6.1)) (b:=yp 9 T6.1) ?_
 refine wp [(9,int lf),(8,.sl 1 14 0 M),(5,bool wb),(3,.isl 14 es),(2,bool false),(1,.ptr 0 0)] [.cells [int pO,.isl 14 pA,int pT,int pV,int pS,int pN,int pCo,.isl 8 pCa,int pCv,int pCf,int pCk,int pXk,int pXn,str pXt],.arr 14 pA] ?_ ?_
 · cases wb with
   | true =>
    have nt:bNot true=false:=by simp only [ee];rfl
    have fz:=nt
    refine Cq ?_
    refine Cr ?_
    have e:=hr3 rfl
    have hNM:N=M:=by have:=of_decide_eq_true hleft.symm;omega
    rw [e,hNM]
    exact ⟨rfl,ya [.to 0,.gone,.to 1] [some 0,some 2] ⟨⟨by simp,rfl⟩,trivial,⟨by simp,rfl⟩,trivial⟩ ⟨zx (b:=0) rfl rfl rfl (by rw [zw _ kpl];exact WkL.refl _ _),zR (b:=2) rfl rfl rfl rfl kal,trivial⟩ ⟨.refl _,.refl _,.refl _,.cl ka,.refl _,.refl _,trivial⟩⟩
   | false =>
    have nt:bNot false=true:=by simp only [ee];rfl
    by_cases hg:1<M - N
    · have n1:iLt 1 lf=true:=by simp only [ee];simp;omega
      have fz:=nt
      refine Cq ?_
      refine Cr ?_
      obtain ⟨g1,g2,g3,g4,g5⟩:=hr1 rfl hg
      have n2:iNe rO 1=false:=by simp only [ee];simp [g1]
      have b1:addN N (lenN rA)=M:=by simp only [ee];omega
      have b2:catA (dropA es 0) rA=pA:=by simp only [ee];simpa using g2
      have fz:=And.intro nt n1
      refine Cr ?_
      have fz:=And.intro n2 (And.intro b1 b2)
      refine Cr ?_
      exact ⟨rfl,ya [.to 0,.gone,.gone,.to 1] [some 0,some 3] ⟨⟨by simp,rfl⟩,trivial,trivial,⟨by simp,rfl⟩,trivial⟩ ⟨zx (b:=0) rfl rfl rfl (by rw [zw _ kpl];exact WkL.refl _ _),zR (b:=3) rfl rfl rfl rfl kal,trivial⟩ ⟨.refl _,.refl _,.refl _,.cl kl,.refl _,.refl _,trivial⟩⟩
    have n1:iLt 1 lf=false:=by simp only [ee];simp;omega
    have fz:=nt
    refine Cq ?_
    refine Cr ?_
    have g2:=hr2 rfl hg
    have hMN:M - N=1:=by
     have:¬ (M - N=0):=of_decide_eq_false hleft.symm
     omega
    have b0:partA [.agg [int rO,.isl 14 rA,int rT,int rV,int rS,int rN,int rCo,.isl 8 rCa,int rCv,int rCf,int rCk,int rXk,int rXn,str rXt]] 0 1=[.agg [int rO,.isl 14 rA,int rT,int rV,int rS,int rN,int rCo,.isl 8 rCa,int rCv,int rCf,int rCk,int rXk,int rXn,str rXt]]:=by simp only [ee];rfl
    have b1:addN N (lenN [.agg [int rO,.isl 14 rA,int rT,int rV,int rS,int rN,int rCo,.isl 8 rCa,int rCv,int rCf,int rCk,int rXk,int rXn,str rXt]])=M:=by simp only [ee];simp;omega
    have b2:catA (dropA es 0) [.agg [int rO,.isl 14 rA,int rT,int rV,int rS,int rN,int rCo,.isl 8 rCa,int rCv,int rCf,int rCk,int rXk,int rXn,str rXt]]=pA:=by simp only [ee];simpa using g2
    have fz:=And.intro n1 (And.intro b0 (And.intro b1 b2))
    refine Cr ?_
    exact ⟨rfl,ya [.to 0,.gone,.gone,.gone,.to 1] [some 0,some 4] ⟨⟨by simp,rfl⟩,trivial,trivial,trivial,⟨by simp,rfl⟩,trivial⟩ ⟨zx (b:=0) rfl rfl rfl (by rw [zw _ kpl];exact WkL.refl _ _),zR (b:=4) rfl rfl rfl rfl kal,trivial⟩ ⟨.refl _,.refl _,.refl _,.cl kl,.refl _,.refl _,trivial⟩⟩
 show zl EE 133 0 (vC [.t 2] (bool true)) (.code (yp 9 T6.1)) [] _ _
 refine vX (a:=vV (yp 9 T6.1)) (b:=yp 10 T6.1) ?_
 refine wp [(9,int lf),(8,.sl 1 14 0 M),(5,bool wb),(2,bool false),(1,.ptr 0 0)] [.cells [int pO,.isl 14 pA,int pT,int pV,int pS,int pN,int pCo,.isl 8 pCa,int pCv,int pCf,int pCk,int pXk,int pXn,str pXt],.arr 14 pA] ?_ ?_
 · have hle0:lenA es=N:=by simp only [ee];omega
   by_cases hg:N<M
   · obtain ⟨z,hz⟩:=hzx N hg
     have hzo:=hop z hz
     have hzR:atA pA N=z.enc:=by simp only [ee];simpa using hel N z hz
     have kz:=Pat.closed z
     obtain ⟨zO,zA,zT,zV,zS,zN,zCo,zCa,zCv,zCf,zCk,zXk,zXn,zXt,hzf,hzfc,hzO,hzA,hzT,hzV,hzS,hzN⟩:=Pat.form2 z
     rw [hzf] at hzR kz
     have n6:iLt 0 lf=true:=by simp only [ee];simp;omega
     have n7:iEq zO 0=false:=by simp only [ee];simp [hzO,hzo]
     have ntf:bAnd true false=false:=by simp only [ee];rfl
     obtain ⟨iN,hiN⟩:∃ x,x=(N:Int):=⟨_,rfl⟩
     rw [← hiN] at hle0 hzR
     have fz:=And.intro n6 (And.intro hle0 (And.intro hzR n7))
     refine Cq ?_
     have fz:=ntf
     refine Cr ?_
     exact ⟨rfl,yz ⟨.refl _,.refl _,.refl _,.refl _,.refl _,trivial⟩⟩
   have n6:iLt 0 lf=false:=by simp only [ee];simp;omega
   obtain ⟨iN,hiN⟩:∃ x,x=(N:Int):=⟨_,rfl⟩
   rw [← hiN] at hle0
   have hau:atA pA iN=.undef:=by simp only [ee];rw [hiN,Int.toNat_natCast,List.getD_eq_getElem?_getD,List.getElem?_eq_none (by omega)];rfl
   have fz:=And.intro n6 (And.intro hle0 hau)
   refine Cq ?_
   refine yw rfl rfl rfl rfl ?_
   refine yw rfl rfl rfl rfl ?_
   refine yw rfl rfl rfl rfl ?_
   refine yw rfl rfl rfl rfl ?_
   refine yw rfl rfl rfl rfl ?_
   refine yw rfl rfl rfl rfl ?_
   refine yw rfl rfl rfl rfl ?_
   refine yw rfl rfl rfl rfl ?_
   refine Aq ?_
   exact ⟨rfl,yz ⟨.refl _,.refl _,.refl _,.refl _,.refl _,trivial⟩⟩
 show zl EE 133 0 (vC [.t 2] (bool true)) (.code (yp 10 T6.1)) [] _ _
 refine AWP.ent (wX (F':=[(9,int lf),(8,.isl 14 pA),(5,bool wb),(2,bool false),(1,.ptr 0 0)]) 1 [.isl 14 pA] rfl ⟨.cells (.cl kpl),trivial⟩ ⟨⟨_,rfl,(zw _ kal).symm⟩,trivial⟩ ⟨.refl _,.of (xf rfl hal.symm),.refl _,.refl _,.refl _,trivial⟩ (by simp)) ?_
 have m1:iEq lf 0=wb:=by
  simp only [ee]
  rw [hleft,Bool.eq_iff_iff]
  simp
  omega
 have m2:bEq wb wb=true:=by simp only [ee];simp
 show zl EE 133 0 (vC [.t 2] (bool true)) (.code (yp 10 T6.1)) [] _ _
 refine Aq ?_
 refine oPA q2 ?_
 have mtt:bAnd true true=true:=by simp only [ee];rfl
 have fz:=And.intro m1 (And.intro m2 mtt)
 refine Cq ?_
 refine Aq ?_
 refine xv (args:=[.isl 14 pA,.isl 14 pA]) rfl rfl rfl rfl q5 (by rw [AV.closedL,ka,AV.closedL,ka];rfl) ?_
 refine Aq ?_
 exact fV
theorem jn_not (p:Pat) (hs:p.Sm) (_hc:p.chk=0) (h1:p.op≠1):zl EE 133 0 (vC [.t 2] (bool true)) (.code (yp 5 T6.1)) [] [(6,int 0),(5,bool p.whl),(4,.ptr 1 0),(3,.isl 14 (zy Pat.enc p.pre)),(2,bool false),(1,.ptr 0 0)] [.cells p.enc.cells,.cells p.rst.enc.cells]:=by
 have q2:=P_awake32
 have q6:=vr p p hs
 rw [yD] at q6
 have kp:=Pat.closed p
 have hE0:zy Pat.enc []=[]:=by rw [zu];rfl
 have hE1:zy Pat.enc [p]=[p.enc]:=by rw [zu];rfl
 by_cases h0:p.op=0
 · have e1:p.pre=[p]:=by rw [Pat.pre,if_pos h0]
   have e3:p.whl=true:=by rw [Pat.whl,if_pos h0]
   have kr:=Pat.closed p.rst
   rw [e1,e3,hE1]
   generalize p.rst=r at *
   obtain ⟨pO,pA,pT,pV,pS,pN,pCo,pCa,pCv,pCf,pCk,pXk,pXn,pXt,hx,hxc,hpO,hpA,hpT,hpV,hpS,hpN⟩:=Pat.form2 p
   obtain ⟨rO,rA,rT,rV,rS,rN,rCo,rCa,rCv,rCf,rCk,rXk,rXn,rXt,hxr⟩:=Pat.form r
   rw [hx] at kp q6 ⊢
   rw [hxr] at kr ⊢
   dsimp only [AV.cells]
   refine zo ?_;unhygienic intros
   have n1:iNe pO 1=true:=by simp only [ee];simp [hpO,h1]
   have hl1:lenA [.agg [int pO,.isl 14 pA,int pT,int pV,int pS,int pN,int pCo,.isl 8 pCa,int pCv,int pCf,int pCk,int pXk,int pXn,str pXt]]=1:=by simp only [ee];rfl
   have m1:iEq 1 1=true:=by simp only [ee];rfl
   have hat:atA [.agg [int pO,.isl 14 pA,int pT,int pV,int pS,int pN,int pCo,.isl 8 pCa,int pCv,int pCf,int pCk,int pXk,int pXn,str pXt]] 0=.agg [int pO,.isl 14 pA,int pT,int pV,int pS,int pN,int pCo,.isl 8 pCa,int pCv,int pCf,int pCk,int pXk,int pXn,str pXt]:=by simp only [ee];rfl
   have fz:=n1
   refine Cq ?_
   refine Cr ?_
   refine zX rfl (by conv=>lhs;cbv) rfl ?_
   refine tgA ?_
   refine oPT q2 ?_
   refine tgA ?_
   refine zn rfl ?_
   refine tgA ?_
   refine zn rfl ?_
   refine tgA ?_
   refine zn rfl ?_
   refine tgA ?_
   refine zn rfl ?_
   have fz:=hl1
   refine tgC ?_
   refine zn rfl ?_
   have fz:=m1
   refine tgC ?_
   refine zn rfl ?_
   refine tgA ?_
   refine zn rfl ?_
   refine tgA ?_
   refine zn rfl ?_
   refine tgA ?_
   refine zn rfl ?_
   have fz:=hat
   refine tgC ?_
   refine zn rfl ?_
   refine tgA ?_
   refine zn rfl ?_
   refine tgA ?_
   refine xL (args:=[.agg [int pO,.isl 14 pA,int pT,int pV,int pS,int pN,int pCo,.isl 8 pCa,int pCv,int pCf,int pCk,int pXk,int pXn,str pXt],.agg [int pO,.isl 14 pA,int pT,int pV,int pS,int pN,int pCo,.isl 8 pCa,int pCv,int pCf,int pCk,int pXk,int pXn,str pXt]]) rfl rfl rfl q6 (by rw [AV.closedL,kp,AV.closedL,kp];rfl) ?_
   refine zn rfl ?_
   refine tgA ?_
   refine zn rfl ?_
   refine tgA ?_
   refine zq (by first | exact .inl rfl | exact .inr ⟨_,_,rfl,rfl⟩) ?_
   refine zq (by first | exact .inl rfl | exact .inr ⟨_,_,rfl,rfl⟩) ?_
   refine zq (by first | exact .inl rfl | exact .inr ⟨_,_,rfl,rfl⟩) ?_
   refine zq (by first | exact .inl rfl | exact .inr ⟨_,_,rfl,rfl⟩) ?_
   refine zq (by first | exact .inl rfl | exact .inr ⟨_,_,rfl,rfl⟩) ?_
   refine zq (by first | exact .inl rfl | exact .inr ⟨_,_,rfl,rfl⟩) ?_
   refine zq (by first | exact .inl rfl | exact .inr ⟨_,_,rfl,rfl⟩) ?_
   refine zq (by first | exact .inl rfl | exact .inr ⟨_,_,rfl,rfl⟩) ?_
   refine zq (by first | exact .inl rfl | exact .inr ⟨_,_,rfl,rfl⟩) ?_
   refine zq (by first | exact .inl rfl | exact .inr ⟨_,_,rfl,rfl⟩) ?_
   refine zq (by first | exact .inl rfl | exact .inr ⟨_,_,rfl,rfl⟩) ?_
   refine zq (by first | exact .inl rfl | exact .inr ⟨_,_,rfl,rfl⟩) ?_
   refine zn rfl ?_
   refine tgA ?_
   refine zK ⟨rfl,?_,?_⟩
   · simp only [zJ,zd,List.cons_append,List.nil_append,List.append_nil];and_intros<;>first | trivial | (intro hp;first | rfl | exact absurd (show false=true from hp) Bool.false_ne_true)
   refine Aq ?_
   exact fV
 have e1:p.pre=[]:=by rw [Pat.pre,if_neg h0,if_pos h1]
 have e2:p.rst=p:=by rw [Pat.rst,if_neg h0,if_pos h1]
 have e3:p.whl=false:=by rw [Pat.whl,if_neg h0,if_pos h1]
 rw [e1,e2,e3,hE0]
 obtain ⟨pO,pA,pT,pV,pS,pN,pCo,pCa,pCv,pCf,pCk,pXk,pXn,pXt,hx,hxc,hpO,hpA,hpT,hpV,hpS,hpN⟩:=Pat.form2 p
 rw [hx] at kp q6 ⊢
 dsimp only [AV.cells]
 refine zo ?_;unhygienic intros
 have n1:iNe pO 1=true:=by simp only [ee];simp [hpO,h1]
 have hl0:lenA []=0:=by simp only [ee];rfl
 have m0:iEq 0 0=true:=by simp only [ee];rfl
 have nf:bNot false=true:=by simp only [ee];rfl
 have fz:=n1
 refine Cq ?_
 refine Cr ?_
 refine zX rfl (by conv=>lhs;cbv) rfl ?_
 refine tgA ?_
 refine oPT q2 ?_
 refine tgA ?_
 refine zn rfl ?_
 refine tgA ?_
 refine zn rfl ?_
 refine tgA ?_
 refine zq (by first | exact .inl rfl | exact .inr ⟨_,_,rfl,rfl⟩) ?_
 refine zq (by first | exact .inl rfl | exact .inr ⟨_,_,rfl,rfl⟩) ?_
 refine zq (by first | exact .inl rfl | exact .inr ⟨_,_,rfl,rfl⟩) ?_
 refine zn rfl ?_
 refine tgA ?_
 refine zn rfl ?_
 refine tgA ?_
 refine zq (by first | exact .inl rfl | exact .inr ⟨_,_,rfl,rfl⟩) ?_
 refine zq (by first | exact .inl rfl | exact .inr ⟨_,_,rfl,rfl⟩) ?_
 refine zq (by first | exact .inl rfl | exact .inr ⟨_,_,rfl,rfl⟩) ?_
 refine zq (by first | exact .inl rfl | exact .inr ⟨_,_,rfl,rfl⟩) ?_
 refine zq (by first | exact .inl rfl | exact .inr ⟨_,_,rfl,rfl⟩) ?_
 refine zn rfl ?_
 refine tgA ?_
 refine zn rfl ?_
 refine tgA ?_
 refine zn rfl ?_
 refine tgA ?_
 refine zn rfl ?_
 have fz:=nf
 refine tgC ?_
 refine zn rfl ?_
 refine tgA ?_
 refine zn rfl ?_
 refine tgA ?_
 refine zn rfl ?_
 have fz:=hl0
 refine tgC ?_
 refine zn rfl ?_
 have fz:=m0
 refine tgC ?_
 refine zn rfl ?_
 refine tgA ?_
 refine zn rfl ?_
 refine tgA ?_
 refine zn rfl ?_
 refine tgA ?_
 refine zn rfl ?_
 refine tgA ?_
 refine xL (args:=[.agg [int pO,.isl 14 pA,int pT,int pV,int pS,int pN,int pCo,.isl 8 pCa,int pCv,int pCf,int pCk,int pXk,int pXn,str pXt],.agg [int pO,.isl 14 pA,int pT,int pV,int pS,int pN,int pCo,.isl 8 pCa,int pCv,int pCf,int pCk,int pXk,int pXn,str pXt]]) rfl rfl rfl q6 (by rw [AV.closedL,kp,AV.closedL,kp];rfl) ?_
 refine zn rfl ?_
 refine tgA ?_
 refine zn rfl ?_
 refine tgA ?_
 refine zK ⟨rfl,?_,?_⟩
 · simp only [zJ,zd,List.cons_append,List.nil_append,List.append_nil];and_intros<;>first | trivial | (intro hp;first | rfl | exact absurd (show false=true from hp) Bool.false_ne_true)
 refine Aq ?_
 exact fV
theorem jn_end (p:Pat) (hs:p.Sm) (hc:p.chk=0):zl EE 133 0 (vC [.t 2] (bool true)) (.code (yp 5 T6.1)) [] [(6,int 0),(5,bool p.whl),(4,.ptr 1 0),(3,.isl 14 (zy Pat.enc p.pre)),(2,bool false),(1,.ptr 0 0)] [.cells p.enc.cells,.cells p.rst.enc.cells]:=by
 by_cases h1:p.op=1
 · have tail:=jn_seq p hs hc h1
   have kp:=Pat.closed p
   generalize zy Pat.enc p.pre=es at *
   generalize p.rst.enc.cells=rc at *
   generalize p.whl=wb at *
   obtain ⟨pO,pA,pT,pV,pS,pN,pCo,pCa,pCv,pCf,pCk,pXk,pXn,pXt,hx,hxc,hpO,hpA,hpT,hpV,hpS,hpN⟩:=Pat.form2 p
   rw [hx] at tail ⊢
   dsimp only [AV.cells] at tail ⊢
   refine zo ?_;unhygienic intros
   have n1:iNe pO 1=false:=by simp only [ee];simp [hpO,h1]
   refine vX (a:=vV (yp 5 T6.1)) (b:=yp 6 T6.1) ?_
   refine wp [(6,int 0),(5,bool wb),(4,.ptr 1 0),(3,.isl 14 es),(2,bool false),(1,.ptr 0 0)] [.cells [int pO,.isl 14 pA,int pT,int pV,int pS,int pN,int pCo,.isl 8 pCa,int pCv,int pCf,int pCk,int pXk,int pXn,str pXt],.cells rc] ?_ ?_
   · have fz:=n1
     refine Cq ?_
     refine Cr ?_
     exact ⟨rfl,yz ⟨.refl _,.refl _,.refl _,.refl _,.refl _,.refl _,trivial⟩⟩
   exact tail
 exact jn_not p hs hc h1
theorem P_lawJoins (p:Pat) (hs:p.Sm):PCall EE 6 [p.enc] (bool true):=by
 have q1:=P_ref09_Few p hs
 have q2:=P_awake32
 have q3:=P_Split p hs
 have q4:=P_pattern_Check p hs
 have kp:=Pat.closed p
 by_cases hc:p.chk=0
 · rw [if_pos hc] at q3
   have tail:=jn_end p hs hc
   have hev:=pre_ev hc
   have hel:=fun (k:Nat) (z:Pat) (hz:p.pre[k]? = some z)=>show (zy Pat.enc p.pre).getD k .undef=z.enc by rw [zu];simp [List.getD_eq_getElem?_getD,List.getElem?_map,hz]
   have hll:=zp Pat.enc p.pre
   have hl64:p.pre.length≤64:=by
    have:=(sJ hc).1
    unfold Pat.pre
    split
    · simp
    split
    · simp
    rw [List.length_take];omega
   have hzx:∀ k:Nat,k<p.pre.length→∃ z:Pat,p.pre[k]? = some z:=fun k hk=>⟨_,List.getElem?_eq_getElem (by omega)⟩
   have kl:=Pat.closedI p.pre
   have kr:=Pat.closed p.rst
   generalize p.pre=pr at *
   generalize hn:pr.length=n at *
   generalize p.rst=r at *
   generalize p.whl=wb at *
   generalize zy Pat.enc pr=es at *
   generalize p.few=fw at *
   clear q4 hs hc
   obtain ⟨pO,pA,pT,pV,pS,pN,pCo,pCa,pCv,pCf,pCk,pXk,pXn,pXt,hx⟩:=Pat.form p
   obtain ⟨rO,rA,rT,rV,rS,rN,rCo,rCa,rCv,rCf,rCk,rXk,rXn,rXt,hr⟩:=Pat.form r
   rw [hx] at q1 q3 kp tail ⊢
   rw [hr] at q3 kr tail
   clear hx hr
   dsimp only [AV.cells] at tail
   refine zo ?_;unhygienic intros
   have nt:bNot true=false:=by simp only [ee];rfl
   have nf:bNot false=true:=by simp only [ee];rfl
   have n0:iNe 0 0=false:=by simp only [ee];rfl
   have noo:bOr false false=false:=by simp only [ee];rfl
   refine fB T6 [.t 2] ?_
   cases fw with
   | false =>
    refine Aq ?_
    refine zh (args:=[.agg [int pO,.isl 14 pA,int pT,int pV,int pS,int pN,int pCo,.isl 8 pCa,int pCv,int pCf,int pCk,int pXk,int pXn,str pXt]]) rfl rfl rfl q1 (zg kp) ?_
    have fz:=nf
    refine Cq ?_
    refine Cr ?_
    refine oPA q2 ?_
    refine Aq ?_
    exact fV
   | true =>
    refine Aq ?_
    refine zh (args:=[.agg [int pO,.isl 14 pA,int pT,int pV,int pS,int pN,int pCo,.isl 8 pCa,int pCv,int pCf,int pCk,int pXk,int pXn,str pXt]]) rfl rfl rfl q1 (zg kp) ?_
    have fz:=nt
    refine Cq ?_
    refine Cr ?_
    refine zh (args:=[.agg [int pO,.isl 14 pA,int pT,int pV,int pS,int pN,int pCo,.isl 8 pCa,int pCv,int pCf,int pCk,int pXk,int pXn,str pXt]]) rfl rfl rfl q3 (zg kp) ?_
    have fz:=n0
    refine Cq ?_
    refine Cr ?_
    refine ze (ι:=Int × Nat) (fun p=>([(7,int p.1),(6,int 0),(5,bool wb),(4,.ptr 1 0),(3,.isl 14 es),(2,bool false),(1,.ptr 0 0)],[.cells [int pO,.isl 14 pA,int pT,int pV,int pS,int pN,int pCo,.isl 8 pCa,int pCv,int pCf,int pCk,int pXk,int pXn,str pXt],.cells [int rO,.isl 14 rA,int rT,int rV,int rS,int rN,int rCo,.isl 8 rCa,int rCv,int rCf,int rCk,int rXk,int rXn,str rXt]])) (fun p=>p.1=p.2∧p.2≤n) (fun p=>n - p.2) (0,0) ⟨rfl,Nat.zero_le _⟩ ?_ ?_
    · exact yz ⟨.refl _,.refl _,.refl _,.refl _,.refl _,.refl _,.refl _,trivial⟩
    rintro ⟨i,k⟩ ⟨gi,gk⟩
    dsimp only at gi gk ⊢
    by_cases hk:k<n
    · obtain ⟨z,hz⟩:=hzx k hk
      obtain ⟨z1,z2⟩:=hev k z hz
      have hR:atA es i=z.enc:=by simp only [ee];rw [gi];exact hel k z hz
      have kz:=Pat.closed z
      have hcl:iLt i (lenA es)=true:=xU e_iLt e_lenA (by omega)
      obtain ⟨zO,zA,zT,zV,zS,zN,zCo,zCa,zCv,zCf,zCk,zXk,zXn,zXt,hzf,hzfc,hzO,hzA,hzT,hzV,hzS,hzN⟩:=Pat.form2 z
      rw [hzf] at hR kz
      have n5:iNe zO 0=false:=by simp only [ee];simp [hzO,z1]
      have n6:iNe zV i=false:=by simp only [ee];simp [hzV,z2,gi]
      have fz:=hcl
      refine Cq ?_
      have fz:=And.intro hcl (And.intro hR (And.intro n5 n6))
      refine Cr ?_
      have fz:=noo
      refine Cr ?_
      have hi2:iAdd .i64 i 1=((k+1:Nat):Int):=yh e_iAdd gi (by omega)
      refine zm (((k+1:Nat):Int),k+1) ⟨rfl,hk⟩ (by dsimp only;omega) ?_
      rw [hi2]
      exact yz ⟨.refl _,.refl _,.refl _,.refl _,.refl _,.refl _,.refl _,trivial⟩
    have hcl:iLt i (lenA es)=false:=xR e_iLt e_lenA (by omega)
    have fz:=hcl
    refine Cq ?_
    refine Cr ?_
    refine zk ?_
    refine out_block ?_
    refine AWP.ent (yz (F':=[(6,int 0),(5,bool wb),(4,.ptr 1 0),(3,.isl 14 es),(2,bool false),(1,.ptr 0 0)]) ⟨.refl _,.refl _,.refl _,.refl _,.refl _,.refl _,trivial⟩) ?_
    exact tail
 rw [if_neg hc] at q3
 have hp0:Pat0.enc=_:=Pat0.enc_eq
 rw [hp0] at q3
 generalize p.few=fw at *
 generalize p.chk=c at *
 obtain ⟨pO,pA,pT,pV,pS,pN,pCo,pCa,pCv,pCf,pCk,pXk,pXn,pXt,hx⟩:=Pat.form p
 rw [hx] at q1 q3 q4 kp ⊢
 clear hx hs
 refine zo ?_;unhygienic intros
 have nt:bNot true=false:=by simp only [ee];rfl
 have nf:bNot false=true:=by simp only [ee];rfl
 have n0:iNe c 0=true:=by simp only [ee];simpa using hc
 have ncc:iEq c c=true:=by simp only [ee];simp
 refine fB T6 [.t 2] ?_
 cases fw with
 | false =>
  refine Aq ?_
  refine zh (args:=[.agg [int pO,.isl 14 pA,int pT,int pV,int pS,int pN,int pCo,.isl 8 pCa,int pCv,int pCf,int pCk,int pXk,int pXn,str pXt]]) rfl rfl rfl q1 (zg kp) ?_
  have fz:=nf
  refine Cq ?_
  refine Cr ?_
  refine oPA q2 ?_
  refine Aq ?_
  exact fV
 | true =>
  refine Aq ?_
  refine zh (args:=[.agg [int pO,.isl 14 pA,int pT,int pV,int pS,int pN,int pCo,.isl 8 pCa,int pCv,int pCf,int pCk,int pXk,int pXn,str pXt]]) rfl rfl rfl q1 (zg kp) ?_
  have fz:=nt
  refine Cq ?_
  refine Cr ?_
  refine zh (args:=[.agg [int pO,.isl 14 pA,int pT,int pV,int pS,int pN,int pCo,.isl 8 pCa,int pCv,int pCf,int pCk,int pXk,int pXn,str pXt]]) rfl rfl rfl q3 (zg kp) ?_
  have fz:=n0
  refine Cq ?_
  refine Cr ?_
  refine oPA q2 ?_
  refine Aq ?_
  refine xv (args:=[.agg [int pO,.isl 14 pA,int pT,int pV,int pS,int pN,int pCo,.isl 8 pCa,int pCv,int pCf,int pCk,int pXk,int pXn,str pXt]]) rfl rfl rfl rfl q4 (zg kp) ?_
  have fz:=ncc
  refine Cq ?_
  refine goC 9 ?_
  exact fBo (h:=by simp only [ee];rfl)
end Go.Am
end
