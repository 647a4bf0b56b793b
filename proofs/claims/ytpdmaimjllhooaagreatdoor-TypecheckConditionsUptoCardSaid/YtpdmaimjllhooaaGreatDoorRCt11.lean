/- Contracts of the program's functions. -/
import Derived.Test.YtpdmaimjllhooaaGreatDoorProg
import Derived.Test.YtpdmaimjllhooaaGreatDoorRCt9
import Derived.Test.YtpdmaimjllhooaaGreatDoorRCt7
import Derived.Test.YtpdmaimjllhooaaGreatDoorCards
import Derived.Test.YtpdmaimjllhooaaGreatDoorRows
import Derived.Test.YtpdmaimjllhooaaGreatDoorTie
section
set_option maxHeartbeats 16000000
set_option maxRecDepth 100000
namespace Go.Am
open Go.Proofs
theorem tests_or {o:Int} (h:yB o=true):o=0∨o=5∨o=7:=by unfold yB at h;simpa using h
theorem arg_sm {p e:Pat} (hs:p.Sm) (h:p.args=[e]):e.Sm:=by
 obtain ⟨o,a,t,v,s,n,c⟩:=p
 simp only [Pat.args] at h
 exact hs.arg (by rw [h];simp)
theorem arg_wf {p e:Pat} (hs:p.wf) (h:p.args=[e]):e.wf:=by
 obtain ⟨o,a,t,v,s,n,c⟩:=p
 simp only [Pat.args] at h
 exact hs.arg (by rw [h];simp)
theorem u5 {p:Pat}:[p.var].length<1048577:=by simp
theorem P_own (p:Pat) (hs:p.Sm) (hw:p.wf) (ht:yB p.op=true) (l:Plc) (hl:l.ok):PCall EE 102 [p.enc,l.enc] (p.own l).enc:=by
 have ho:=tests_or ht
 have q1:=vL l.us [p.var] (by have:=hl.2.2.1;omega) u5
 have q2:=vL l.si [p.var] (by have:=hl.2.2.2;omega) u5
 have hone:mapE int [p.var]=[int p.var]:=by rw [zk];rfl
 rw [hone] at q1 q2
 have hLU:=zx l.us
 have hLS:=zx l.si
 have hcl:=Pat.closed p
 have hwn:=hw.self.2.2.2.2
 have hR:(p.own l).enc=_:=rfl
 rw [hR]
 unfold Pat.own
 by_cases h0:p.op=0
 · rw [if_pos h0]
   simp only [Plc.enc]
   have r1:=zx (zG l.us [p.var])
   have r2:=zx (zG l.si [p.var])
   generalize mapE int (zG l.us [p.var])=A1 at *
   generalize mapE int (zG l.si [p.var])=A2 at *
   generalize mapE int l.us=LU at *
   generalize mapE int l.si=LS at *
   obtain ⟨pO,pA,pT,pV,pS,pN,pCo,pCa,pCv,pCf,pCk,pXk,pXn,pXt,hx,hxc,hpO,hpA,hpT,hpV,hpS,hpN⟩:=Pat.form2 p
   rw [hx] at hcl ⊢
   rw [← hpO] at h0
   rw [← hpV] at q1 q2
   have hpAI:(AV.isl 14 pA).closed=true:=by have:=hcl;simp [AV.closed,AV.closedL] at this ⊢;exact this.1
   have hpCI:(AV.isl 8 pCa).closed=true:=by have:=hcl;simp [AV.closed,AV.closedL] at this ⊢;exact this.2
   have hvc:(AV.isl 1 [int pV]).closed=true:=rfl
   clear hx hxc hpA hR hone hwn ho
   refine zr ?_;unhygienic intros
   have k0:iEq pO 0=true:=by simp only [ee];simpa using h0
   refine fB T102 [.cell 4 3 true] ?_
   have fz:=k0
   refine Cq ?_
   refine Aq ?_
   refine xM (F':=[(5,.isl 1 [int pV]),(2,.ptr 0 0),(3,.ptr 1 0),(4,.ptr 2 0)]) (H':=[.cells [int pO,.isl 14 pA,int pT,int pV,int pS,int pN,int pCo,.isl 8 pCa,int pCv,int pCf,int pCk,int pXk,int pXn,str pXt],.cells [.isl 1 LU,.isl 1 LS,int l.fb],.cells [.val (.slice none 0 0),.val (.slice none 0 0),int 0]]) ?_ ?_
   · exact (zF [.to 0,.to 1,.to 2,.isl 1 ([AV.val (Value.int IntKind.i64 pV)])] [some 0,some 1,some 2] ⟨⟨by simp,rfl⟩,⟨by simp,rfl⟩,⟨by simp,rfl⟩,⟨_,rfl,(zp _ (by rfl)).symm⟩,trivial⟩ ⟨ze (b:=0) rfl rfl rfl ⟨.refl _,.cl hpAI,.refl _,.refl _,.refl _,.refl _,.refl _,.cl hpCI,.refl _,.refl _,.refl _,.refl _,.refl _,.refl _,trivial⟩,ze (b:=1) rfl rfl rfl ⟨.cl hLU,.cl hLS,.refl _,trivial⟩,ze (b:=2) rfl rfl rfl ⟨.refl _,.refl _,.refl _,trivial⟩,trivial⟩ ⟨.refl _,.refl _,.refl _,.refl _,trivial⟩)
   refine Aq ?_
   refine zb rfl (by conv=>lhs;cbv) rfl ?_
   refine tgA ?_
   refine oPT q1 ?_
   refine tgA ?_
   refine oPT q2 ?_
   refine tgA ?_
   refine zW ⟨rfl,by simp [za,zZ],?_⟩
   refine Aq ?_
   exact fE [.gone,.gone,.gone]
 rw [if_neg h0]
 obtain ⟨e,he⟩:=hwn (by omega)
 have hes:=arg_sm hs he
 have hew:=arg_wf hw he
 have hea:p.arg0=e:=by unfold Pat.arg0;rw [he];rfl
 rw [hea]
 have q3:=P_Bound e hes
 have q4:=vL l.us e.bound (by have:=hl.2.2.1;omega) (by have:=wu hew;omega)
 have hub:(zG l.us e.bound).length<1048577:=by have:=uni_len l.us e.bound;have:=hl.2.2.1;have:=wu hew;omega
 have q5:=vL (zG l.us e.bound) [p.var] hub u5
 have q6:=P_ones e hes hew
 have q7:=vL l.si e.ones (by have:=hl.2.2.2;omega) (by have:=wP hew;omega)
 rw [hone] at q5
 have hae:mapE Pat.enc p.args=[e.enc]:=by rw [he,zk];rfl
 have hec:=Pat.closed e
 by_cases h5:p.op=5
 · rw [if_pos h5]
   simp only [Plc.enc]
   have r1:=zx (zG (zG l.us e.bound) [p.var])
   have r2:=zx (zG l.si [p.var])
   have r3:=zx e.bound
   have r4:=zx (zG l.us e.bound)
   clear q6 q7
   generalize mapE int (zG (zG l.us e.bound) [p.var])=A1 at *
   generalize mapE int (zG l.si [p.var])=A2 at *
   generalize mapE int (zG l.us e.bound)=A3 at *
   generalize mapE int e.bound=A4 at *
   generalize mapE int l.us=LU at *
   generalize mapE int l.si=LS at *
   obtain ⟨pO,pA,pT,pV,pS,pN,pCo,pCa,pCv,pCf,pCk,pXk,pXn,pXt,hx,hxc,hpO,hpA,hpT,hpV,hpS,hpN⟩:=Pat.form2 p
   rw [hx] at hcl ⊢
   rw [← hpO] at h0 h5
   rw [← hpV] at q1 q2 q5
   rw [← hpA] at hae
   have hpAI:(AV.isl 14 pA).closed=true:=by have:=hcl;simp [AV.closed,AV.closedL] at this ⊢;exact this.1
   have hpCI:(AV.isl 8 pCa).closed=true:=by have:=hcl;simp [AV.closed,AV.closedL] at this ⊢;exact this.2
   obtain ⟨eO,eA,eT,eV,eS,eN,eCo,eCa,eCv,eCf,eCk,eXk,eXn,eXt,hy⟩:=Pat.form e
   rw [hy] at q3 hae hec
   clear hx hxc hpA hR hone hwn ho
   subst hae
   have hvc:(AV.isl 1 [int pV]).closed=true:=rfl
   refine zr ?_;unhygienic intros
   have k0:iEq pO 0=false:=by simp only [ee];simpa using h0
   have k5:iEq pO 5=true:=by simp only [ee];simpa using h5
   have a0:atA [.agg [int eO,.isl 14 eA,int eT,int eV,int eS,int eN,int eCo,.isl 8 eCa,int eCv,int eCf,int eCk,int eXk,int eXn,str eXt]] 0=.agg [int eO,.isl 14 eA,int eT,int eV,int eS,int eN,int eCo,.isl 8 eCa,int eCv,int eCf,int eCk,int eXk,int eXn,str eXt]:=by simp only [ee];rfl
   refine fB T102 [.cell 4 3 true] ?_
   have fz:=k0
   refine Cq ?_
   have fz:=k5
   refine Cr ?_
   refine xM (F':=[(22,.val (.bool true)),(5,.isl 1 [int pV]),(2,.ptr 0 0),(3,.ptr 1 0),(4,.ptr 2 0)]) (H':=[.cells [int pO,.isl 14 [.agg [int eO,.isl 14 eA,int eT,int eV,int eS,int eN,int eCo,.isl 8 eCa,int eCv,int eCf,int eCk,int eXk,int eXn,str eXt]],int pT,int pV,int pS,int pN,int pCo,.isl 8 pCa,int pCv,int pCf,int pCk,int pXk,int pXn,str pXt],.cells [.isl 1 LU,.isl 1 LS,int l.fb],.cells [.val (.slice none 0 0),.val (.slice none 0 0),int 0]]) ?_ ?_
   · exact (zF [.to 0,.to 1,.to 2,.isl 1 ([AV.val (Value.int IntKind.i64 pV)])] [some 0,some 1,some 2] ⟨⟨by simp,rfl⟩,⟨by simp,rfl⟩,⟨by simp,rfl⟩,⟨_,rfl,(zp _ (by rfl)).symm⟩,trivial⟩ ⟨ze (b:=0) rfl rfl rfl ⟨.refl _,.cl hpAI,.refl _,.refl _,.refl _,.refl _,.refl _,.cl hpCI,.refl _,.refl _,.refl _,.refl _,.refl _,.refl _,trivial⟩,ze (b:=1) rfl rfl rfl ⟨.cl hLU,.cl hLS,.refl _,trivial⟩,ze (b:=2) rfl rfl rfl ⟨.refl _,.refl _,.refl _,trivial⟩,trivial⟩ ⟨.refl _,.refl _,.refl _,.refl _,.refl _,trivial⟩)
   have fz:=And.intro a0 k5
   refine Cq ?_
   refine Cr ?_
   refine zb rfl (by conv=>lhs;cbv) rfl ?_
   refine tgC ?_
   refine oPT q3 ?_
   refine oPT q4 ?_
   refine tgA ?_
   refine oPT q5 ?_
   refine tgA ?_
   refine oPT q2 ?_
   refine tgA ?_
   refine zW ⟨rfl,by simp [za,zZ],?_⟩
   refine Aq ?_
   refine zR rfl rfl ?_
   exact ⟨[.gone,.gone,.gone],⟨trivial,trivial,trivial,trivial⟩,.agg' ⟨.cl r1,.cl r2,.of (congrArg int (by assumption)),trivial⟩⟩
 rw [if_neg h5]
 simp only [Plc.enc]
 have r1:=zx (zG l.us e.bound)
 have r2:=zx (zG l.si e.ones)
 have r3:=zx e.bound
 have r4:=zx e.ones
 clear q5 q1 q2
 generalize mapE int (zG l.us e.bound)=A1 at *
 generalize mapE int (zG l.si e.ones)=A2 at *
 generalize mapE int e.bound=A4 at *
 generalize mapE int e.ones=A5 at *
 generalize mapE int l.us=LU at *
 generalize mapE int l.si=LS at *
 obtain ⟨pO,pA,pT,pV,pS,pN,pCo,pCa,pCv,pCf,pCk,pXk,pXn,pXt,hx,hxc,hpO,hpA,hpT,hpV,hpS,hpN⟩:=Pat.form2 p
 rw [hx] at hcl ⊢
 rw [← hpO] at h0 h5
 rw [← hpA] at hae
 have hpAI:(AV.isl 14 pA).closed=true:=by have:=hcl;simp [AV.closed,AV.closedL] at this ⊢;exact this.1
 have hpCI:(AV.isl 8 pCa).closed=true:=by have:=hcl;simp [AV.closed,AV.closedL] at this ⊢;exact this.2
 obtain ⟨eO,eA,eT,eV,eS,eN,eCo,eCa,eCv,eCf,eCk,eXk,eXn,eXt,hy⟩:=Pat.form e
 rw [hy] at q3 q6 hae hec
 clear hx hxc hpA hR hone hwn ho
 subst hae
 refine zr ?_;unhygienic intros
 have k0:iEq pO 0=false:=by simp only [ee];simpa using h0
 have k5:iEq pO 5=false:=by simp only [ee];simpa using h5
 have a0:atA [.agg [int eO,.isl 14 eA,int eT,int eV,int eS,int eN,int eCo,.isl 8 eCa,int eCv,int eCf,int eCk,int eXk,int eXn,str eXt]] 0=.agg [int eO,.isl 14 eA,int eT,int eV,int eS,int eN,int eCo,.isl 8 eCa,int eCv,int eCf,int eCk,int eXk,int eXn,str eXt]:=by simp only [ee];rfl
 refine fB T102 [.cell 4 3 true] ?_
 have fz:=k0
 refine Cq ?_
 have fz:=k5
 refine Cr ?_
 have fz:=And.intro a0 k5
 refine Cr ?_
 refine zb rfl (by conv=>lhs;cbv) rfl ?_
 refine tgC ?_
 refine oPT q3 ?_
 refine oPT q4 ?_
 refine tgC ?_
 refine oPT q6 ?_
 refine oPT q7 ?_
 refine tgA ?_
 refine zW ⟨rfl,by simp [za,zZ],?_⟩
 refine Aq ?_
 exact fE [.gone,.gone,.gone,.gone]
open Classical in
theorem nodeE_red (p:Pat) (hl:p.args.length≤64):p.nodeE=(if p.op<0∨10<p.op then 1 else if ¬ (if p.op=0 then p.args.length=0 else if p.op=1∨p.op=2∨p.op=3 then 2≤p.args.length else if p.op=8 then p.args.length=2 else p.args.length=1) then 15
 else if (zD p.op && decide (p.ty<0∨15<p.ty))=true∨(zD p.op && decide (p.var<0∨15<p.var))=true∨(yD p.op && decide (p.scope<0∨63<p.scope))=true∨(y8 p.op && decide (p.span<0∨1099511627776<p.span))=true then 2
 else if xO p.op=true∧p.cond.chk≠0 then p.cond.chk
 else if (zD p.op=false∧(p.ty≠0∨p.var≠0))∨(yD p.op=false∧p.scope≠0)∨(y8 p.op=false∧p.span≠0)∨(xO p.op=false∧p.cond≠Ex0) then 3 else 0):=by
 unfold Pat.nodeE
 by_cases h1:p.op<0∨11≤p.op
 · rw [if_pos h1,if_pos (show p.op<0∨10<p.op by omega)]
 rw [if_neg h1,if_neg (show ¬ (p.op<0∨10<p.op) by omega)]
 have h2:((p.args.length:Int)<wE p.op∨vC p.op<p.args.length)↔¬ (if p.op=0 then p.args.length=0 else if p.op=1∨p.op=2∨p.op=3 then 2≤p.args.length else if p.op=8 then p.args.length=2 else p.args.length=1):=by
  unfold wE vC
  (repeat' split)<;>omega
 by_cases h3:(p.args.length:Int)<wE p.op∨vC p.op<p.args.length
 · rw [if_pos h3,if_pos (h2.1 h3)]
 rw [if_neg h3,if_neg (fun h=>h3 (h2.2 h))]
 have h4:((zD p.op && decide (p.ty<0∨15<p.ty))=true∨(zD p.op && decide (p.var<0∨15<p.var))=true∨(yD p.op && decide (p.scope<0∨63<p.scope))=true∨(y8 p.op && decide (p.span<0∨1099511627776<p.span))=true) ↔
  (zD p.op=true∧(p.ty<0∨15<p.ty∨p.var<0∨15<p.var))∨(yD p.op=true∧(p.scope<0∨63<p.scope))∨(y8 p.op=true∧(p.span<0∨1099511627776<p.span)):=by
  cases zD p.op<;>cases yD p.op<;>cases y8 p.op<;>simp<;>omega
 by_cases h5:(zD p.op=true∧(p.ty<0∨15<p.ty∨p.var<0∨15<p.var))∨(yD p.op=true∧(p.scope<0∨63<p.scope))∨(y8 p.op=true∧(p.span<0∨1099511627776<p.span))
 · rw [if_pos h5,if_pos (h4.2 h5)]
 rw [if_neg h5,if_neg (fun h=>h5 (h4.1 h))]
 by_cases h6:xO p.op=true∧p.cond.chk≠0
 · rw [if_pos h6,if_pos h6]
 rw [if_neg h6,if_neg h6]
 by_cases h7:(xO p.op=false∧p.cond≠Ex0)∨(zD p.op=false∧(p.ty≠0∨p.var≠0))∨(yD p.op=false∧p.scope≠0)∨(y8 p.op=false∧p.span≠0)
 · rw [if_pos h7]
   refine (if_pos ?_).symm
   rcases h7 with h | h | h | h
   · exact .inr (.inr (.inr h))
   · exact .inl h
   · exact .inr (.inl h)
   exact .inr (.inr (.inl h))
 rw [if_neg h7]
 refine (if_neg ?_).symm
 rintro (h | h | h | h)
 · exact h7 (.inr (.inl h))
 · exact h7 (.inr (.inr (.inl h)))
 · exact h7 (.inr (.inr (.inr h)))
 exact h7 (.inl h)
theorem P_ref09_node (p:Pat) (hs:p.Sm) (hlen:p.args.length≤64):PCall EE 88 [p.enc] (int p.nodeE):=by
 have h1:=P_ref09_arity p (by omega)
 have h2:=P_variable p
 have h3:=P_Negates p
 have h4:=P_Times p
 have h5:=P_condition p
 have h6:=P_ref08_Check p.cond hs.cond'
 have h7:=P_ref08_Same p.cond Ex0 hs.cond'
 rw [Ex0.form] at h7
 have hsc:yD p.op=(decide (p.op=5∨p.op=9) || y8 p.op):=by unfold yD y8;rw [Bool.eq_iff_iff];simp;omega
 obtain ⟨R,hR⟩:∃ R,R=p.nodeE:=⟨_,rfl⟩
 rw [← hR]
 have hb:p.cond≠Ex0↔eqB p.cond Ex0=false:=⟨fun h=>uo h,fun h e=>(by rw [uW e] at h;cases h)⟩
 rw [nodeE_red p hlen,hsc] at hR
 simp only [hb] at hR
 clear hb
 have hcl:=Pat.closed p
 have hccl:=Ex.closed p.cond
 generalize hab:(decide (if p.op=0 then p.args.length=0 else if p.op=1∨p.op=2∨p.op=3 then 2≤p.args.length else if p.op=8 then p.args.length=2 else p.args.length=1))=ab at *
 have hab2:(if p.op=0 then p.args.length=0 else if p.op=1∨p.op=2∨p.op=3 then 2≤p.args.length else if p.op=8 then p.args.length=2 else p.args.length=1)↔ab=true:=by rw [← hab];simp
 simp only [hab2] at hR
 clear hab hab2 hsc
 have hco:(zD p.op=true∧decide (p.op=5∨p.op=9)=false∧y8 p.op=false∧xO p.op=true)∨(zD p.op=true∧decide (p.op=5∨p.op=9)=true∧y8 p.op=false∧xO p.op=true)∨(zD p.op=false∧decide (p.op=5∨p.op=9)=false∧y8 p.op=true∧xO p.op=false) ∨
  (zD p.op=false∧decide (p.op=5∨p.op=9)=false∧y8 p.op=false∧xO p.op=true)∨(zD p.op=false∧decide (p.op=5∨p.op=9)=false∧y8 p.op=false∧xO p.op=false):=by
  unfold zD y8 xO
  simp only [decide_eq_true_eq,decide_eq_false_iff_not]
  omega
 generalize zD p.op=ty at *
 generalize decide (p.op=5∨p.op=9)=ng at *
 generalize y8 p.op=sp at *
 generalize xO p.op=cd at *
 generalize eqB p.cond Ex0=eq at *
 generalize p.cond.chk=ck at *
 obtain ⟨pO,pA,pT,pV,pS,pN,pCo,pCa,pCv,pCf,pCk,pXk,pXn,pXt,hx,hxc,hpO,hpA,hpT,hpV,hpS,hpN⟩:=Pat.form2 p
 rw [hx] at h1 h2 h3 h4 h5 hcl ⊢
 rw [hxc] at h6 h7 hccl
 rw [← hpO,← hpT,← hpV,← hpS,← hpN] at hR
 have b1:=tH ty pT 15
 have b2:=tH ty pV 15
 have b3t:=tH true pS 63
 have b3f:=tH false pS 63
 have b4:=tH sp pN 1099511627776
 generalize decide (pT<0∨15<pT)=d1 at *
 generalize decide (pV<0∨15<pV)=d2 at *
 generalize decide (pS<0∨63<pS)=d3 at *
 generalize decide (pN<0∨1099511627776<pN)=d4 at *
 clear hpO hpA hpT hpV hpS hpN hx hxc hs hlen
 refine zr ?_;unhygienic intros
 refine fB T88 [.t 2] ?_
 rcases hco with ⟨rfl,rfl,rfl,rfl⟩ | ⟨rfl,rfl,rfl,rfl⟩ | ⟨rfl,rfl,rfl,rfl⟩ | ⟨rfl,rfl,rfl,rfl⟩ | ⟨rfl,rfl,rfl,rfl⟩
 ·
  refine goA 0 ?_
  refine oC (fun c1=>?_) fun c1=>?_
  ·
   simp [ee] at c1
   refine Aq ?_
   exact fG
  simp [ee] at c1
  refine Aq ?_
  refine oPA h1 ?_
  refine goA 0 ?_
  refine oC (fun c2=>?_) fun c2=>?_
  ·
   simp [ee] at c2
   refine Aq ?_
   exact fG
  simp [ee] at c2
  refine Aq ?_
  refine zb rfl (by conv=>lhs;cbv) rfl ?_
  refine tgA ?_
  refine oPT h2 ?_
  refine tgA ?_
  refine oPT h3 ?_
  refine tgA ?_
  refine zn rfl ?_
  refine tgA ?_
  refine zn rfl ?_
  refine oPT h4 ?_
  refine tgA ?_
  refine oPT h5 ?_
  refine tgA ?_
  refine zW ⟨rfl,by simp [za,zZ],?_⟩
  refine Aq ?_
  refine zb rfl (by conv=>lhs;cbv) rfl ?_
  refine tgA ?_
  refine oPT b1 ?_
  refine tgA ?_
  cases d1
  ·
   refine zn rfl ?_
   refine tgA ?_
   refine zn rfl ?_
   refine tgA ?_
   refine zn rfl ?_
   refine tgA ?_
   refine zn rfl ?_
   refine oPT b2 ?_
   refine tgA ?_
   cases d2
   ·
    refine zn rfl ?_
    refine tgA ?_
    refine zn rfl ?_
    refine tgA ?_
    refine zn rfl ?_
    refine tgA ?_
    refine zn rfl ?_
    refine oPT b3f ?_
    refine tgA ?_
    refine zn rfl ?_
    refine tgA ?_
    refine zn rfl ?_
    refine oPT h4 ?_
    refine zn rfl ?_
    refine tgA ?_
    refine zn rfl ?_
    refine tgA ?_
    refine zn rfl ?_
    refine oPT b4 ?_
    refine tgA ?_
    refine zW ⟨rfl,by simp [za,zZ],?_⟩
    refine Aq ?_
    refine oPA h6 ?_
    refine goA 0 ?_
    refine oC (fun c3=>?_) fun c3=>?_
    ·
     simp [ee] at c3
     refine Aq ?_
     exact fG
    simp [ee] at c3
    refine goA 0 ?_
    refine nsB hX (by conv=>lhs;cbv) ?_
    refine goA 0 ?_
    refine nsB hX (by conv=>lhs;cbv) ?_
    refine goA 0 ?_
    refine zj rfl rfl (fun c4=>?_) (fun c4=>?_)
    ·
     simp [ee] at c4
     refine Aq ?_
     refine zi rfl rfl ?_
     refine Aq ?_
     refine zi rfl rfl ?_
     refine Aq ?_
     exact fG
    simp [ee] at c4
    refine Aq ?_
    refine oPG h4 ?_
    refine goA 0 ?_
    refine goA 1 ?_
    refine goA 1 ?_
    refine nsB hX (by conv=>lhs;cbv) ?_
    refine goA 0 ?_
    refine zj rfl rfl (fun c5=>?_) (fun c5=>?_)
    ·
     simp [ee] at c5
     refine Aq ?_
     refine zi rfl rfl ?_
     refine Aq ?_
     exact fG
    simp [ee] at c5
    refine goA 1 ?_
    refine goA 1 ?_
    refine goA 1 ?_
    refine zj rfl rfl (fun c6=>?_) (fun c6=>?_)
    ·
     simp [ee] at c6
    simp [ee] at c6
    refine goA 1 ?_
    refine goA 1 ?_
    refine goA 1 ?_
    refine goA 1 ?_
    refine goA 1 ?_
    refine oC (fun c7=>?_) fun c7=>?_
    ·
     simp [ee] at c7
    simp [ee] at c7
    refine Aq ?_
    exact fG
   refine zy (.inl rfl) ?_
   refine zy (.inl rfl) ?_
   refine zy (.inl rfl) ?_
   refine zy (.inl rfl) ?_
   refine tgA ?_
   refine zy (.inl rfl) ?_
   refine zy (.inl rfl) ?_
   refine zy (.inl rfl) ?_
   refine zy (.inl rfl) ?_
   refine zy (.inl rfl) ?_
   refine tgA ?_
   refine zW ⟨rfl,by simp [za,zZ],?_⟩
   refine Aq ?_
   exact fG
  refine zy (.inl rfl) ?_
  refine zy (.inl rfl) ?_
  refine zy (.inl rfl) ?_
  refine zy (.inl rfl) ?_
  refine tgA ?_
  refine zy (.inl rfl) ?_
  refine zy (.inl rfl) ?_
  refine zy (.inl rfl) ?_
  refine zy (.inl rfl) ?_
  refine tgA ?_
  refine zy (.inl rfl) ?_
  refine zy (.inl rfl) ?_
  refine zy (.inl rfl) ?_
  refine zy (.inl rfl) ?_
  refine zy (.inl rfl) ?_
  refine tgA ?_
  refine zW ⟨rfl,by simp [za,zZ],?_⟩
  refine Aq ?_
  exact fG
 ·
  refine goA 0 ?_
  refine oC (fun c1=>?_) fun c1=>?_
  ·
   simp [ee] at c1
   refine Aq ?_
   exact fG
  simp [ee] at c1
  refine Aq ?_
  refine oPA h1 ?_
  refine goA 0 ?_
  refine oC (fun c2=>?_) fun c2=>?_
  ·
   simp [ee] at c2
   refine Aq ?_
   exact fG
  simp [ee] at c2
  refine Aq ?_
  refine zb rfl (by conv=>lhs;cbv) rfl ?_
  refine tgA ?_
  refine oPT h2 ?_
  refine tgA ?_
  refine oPT h3 ?_
  refine tgA ?_
  refine zy (.inl rfl) ?_
  refine zy (.inl rfl) ?_
  refine tgA ?_
  refine oPT h5 ?_
  refine tgA ?_
  refine zW ⟨rfl,by simp [za,zZ],?_⟩
  refine Aq ?_
  refine zb rfl (by conv=>lhs;cbv) rfl ?_
  refine tgA ?_
  refine oPT b1 ?_
  refine tgA ?_
  cases d1
  ·
   refine zn rfl ?_
   refine tgA ?_
   refine zn rfl ?_
   refine tgA ?_
   refine zn rfl ?_
   refine tgA ?_
   refine zn rfl ?_
   refine oPT b2 ?_
   refine tgA ?_
   cases d2
   ·
    refine zn rfl ?_
    refine tgA ?_
    refine zn rfl ?_
    refine tgA ?_
    refine zn rfl ?_
    refine tgA ?_
    refine zn rfl ?_
    refine oPT b3t ?_
    refine tgA ?_
    cases d3
    ·
     refine zn rfl ?_
     refine tgA ?_
     refine zn rfl ?_
     refine oPT h4 ?_
     refine zn rfl ?_
     refine tgA ?_
     refine zn rfl ?_
     refine tgA ?_
     refine zn rfl ?_
     refine oPT b4 ?_
     refine tgA ?_
     refine zW ⟨rfl,by simp [za,zZ],?_⟩
     refine Aq ?_
     refine oPA h6 ?_
     refine goA 0 ?_
     refine oC (fun c3=>?_) fun c3=>?_
     ·
      simp [ee] at c3
      refine Aq ?_
      exact fG
     simp [ee] at c3
     refine goA 0 ?_
     refine nsB hX (by conv=>lhs;cbv) ?_
     refine goA 0 ?_
     refine nsB hX (by conv=>lhs;cbv) ?_
     refine goA 0 ?_
     refine zj rfl rfl (fun c4=>?_) (fun c4=>?_)
     ·
      simp [ee] at c4
     simp [ee] at c4
     refine Aq ?_
     refine oPG h4 ?_
     refine goA 0 ?_
     refine goA 1 ?_
     refine goA 1 ?_
     refine nsB hX (by conv=>lhs;cbv) ?_
     refine goA 0 ?_
     refine zj rfl rfl (fun c5=>?_) (fun c5=>?_)
     ·
      simp [ee] at c5
      refine Aq ?_
      refine zi rfl rfl ?_
      refine Aq ?_
      exact fG
     simp [ee] at c5
     refine goA 1 ?_
     refine goA 1 ?_
     refine goA 1 ?_
     refine zj rfl rfl (fun c6=>?_) (fun c6=>?_)
     ·
      simp [ee] at c6
     simp [ee] at c6
     refine goA 1 ?_
     refine goA 1 ?_
     refine goA 1 ?_
     refine goA 1 ?_
     refine goA 1 ?_
     refine oC (fun c7=>?_) fun c7=>?_
     ·
      simp [ee] at c7
     simp [ee] at c7
     refine Aq ?_
     exact fG
    refine zy (.inl rfl) ?_
    refine zy (.inl rfl) ?_
    refine zy (.inl rfl) ?_
    refine zy (.inl rfl) ?_
    refine zy (.inl rfl) ?_
    refine tgA ?_
    refine zW ⟨rfl,by simp [za,zZ],?_⟩
    refine Aq ?_
    exact fG
   refine zy (.inl rfl) ?_
   refine zy (.inl rfl) ?_
   refine zy (.inl rfl) ?_
   refine zy (.inl rfl) ?_
   refine tgA ?_
   refine zy (.inl rfl) ?_
   refine zy (.inl rfl) ?_
   refine zy (.inl rfl) ?_
   refine zy (.inl rfl) ?_
   refine zy (.inl rfl) ?_
   refine tgA ?_
   refine zW ⟨rfl,by simp [za,zZ],?_⟩
   refine Aq ?_
   exact fG
  refine zy (.inl rfl) ?_
  refine zy (.inl rfl) ?_
  refine zy (.inl rfl) ?_
  refine zy (.inl rfl) ?_
  refine tgA ?_
  refine zy (.inl rfl) ?_
  refine zy (.inl rfl) ?_
  refine zy (.inl rfl) ?_
  refine zy (.inl rfl) ?_
  refine tgA ?_
  refine zy (.inl rfl) ?_
  refine zy (.inl rfl) ?_
  refine zy (.inl rfl) ?_
  refine zy (.inl rfl) ?_
  refine zy (.inl rfl) ?_
  refine tgA ?_
  refine zW ⟨rfl,by simp [za,zZ],?_⟩
  refine Aq ?_
  exact fG
 ·
  refine goA 0 ?_
  refine oC (fun c1=>?_) fun c1=>?_
  ·
   simp [ee] at c1
   refine Aq ?_
   exact fG
  simp [ee] at c1
  refine Aq ?_
  refine oPA h1 ?_
  refine goA 0 ?_
  refine oC (fun c2=>?_) fun c2=>?_
  ·
   simp [ee] at c2
   refine Aq ?_
   exact fG
  simp [ee] at c2
  refine Aq ?_
  refine zb rfl (by conv=>lhs;cbv) rfl ?_
  refine tgA ?_
  refine oPT h2 ?_
  refine tgA ?_
  refine oPT h3 ?_
  refine tgA ?_
  refine zn rfl ?_
  refine tgA ?_
  refine zn rfl ?_
  refine oPT h4 ?_
  refine tgA ?_
  refine oPT h5 ?_
  refine tgA ?_
  refine zW ⟨rfl,by simp [za,zZ],?_⟩
  refine Aq ?_
  refine zb rfl (by conv=>lhs;cbv) rfl ?_
  refine tgA ?_
  refine oPT b1 ?_
  refine tgA ?_
  refine zn rfl ?_
  refine tgA ?_
  refine zn rfl ?_
  refine tgA ?_
  refine zn rfl ?_
  refine tgA ?_
  refine zn rfl ?_
  refine oPT b2 ?_
  refine tgA ?_
  refine zn rfl ?_
  refine tgA ?_
  refine zn rfl ?_
  refine tgA ?_
  refine zn rfl ?_
  refine tgA ?_
  refine zn rfl ?_
  refine oPT b3t ?_
  refine tgA ?_
  cases d3
  ·
   refine zn rfl ?_
   refine tgA ?_
   refine zn rfl ?_
   refine oPT h4 ?_
   refine zn rfl ?_
   refine tgA ?_
   refine zn rfl ?_
   refine tgA ?_
   refine zn rfl ?_
   refine oPT b4 ?_
   refine tgA ?_
   refine zW ⟨rfl,by simp [za,zZ],?_⟩
   refine goA 0 ?_
   refine oC (fun c3=>?_) fun c3=>?_
   ·
    refine Aq ?_
    exact fG
   refine goA 0 ?_
   refine goA 1 ?_
   refine nsB hX (by conv=>lhs;cbv) ?_
   refine goA 0 ?_
   refine nsB hX (by conv=>lhs;cbv) ?_
   refine goA 0 ?_
   refine zj rfl rfl (fun c4=>?_) (fun c4=>?_)
   ·
    simp [ee] at c4
    refine Aq ?_
    refine zi rfl rfl ?_
    refine Aq ?_
    refine zi rfl rfl ?_
    refine Aq ?_
    exact fG
   simp [ee] at c4
   refine Aq ?_
   refine oPG h4 ?_
   refine goA 0 ?_
   refine goA 1 ?_
   refine goA 1 ?_
   refine nsB hX (by conv=>lhs;cbv) ?_
   refine goA 0 ?_
   refine zj rfl rfl (fun c5=>?_) (fun c5=>?_)
   ·
    simp [ee] at c5
   simp [ee] at c5
   refine goA 1 ?_
   refine goA 1 ?_
   refine goA 1 ?_
   refine zj rfl rfl (fun c6=>?_) (fun c6=>?_)
   ·
    simp [ee] at c6
    refine Aq ?_
    refine yp rfl rfl h7 rfl ⟨[.gone],⟨trivial,trivial⟩,⟨.cl hccl,.agg' ⟨.refl _,.nilI _,.refl _,.refl _,.refl _,.refl _,.refl _,.refl _,trivial⟩,trivial⟩⟩ ?_
    refine goA 0 ?_
    refine goA 1 ?_
    refine oC (fun c7=>?_) fun c7=>?_
    ·
     simp [ee] at c7
     refine Aq ?_
     exact fG
    simp [ee] at c7
    refine Aq ?_
    exact fG
   simp [ee] at c6
  refine zy (.inl rfl) ?_
  refine zy (.inl rfl) ?_
  refine zy (.inl rfl) ?_
  refine zy (.inl rfl) ?_
  refine zy (.inl rfl) ?_
  refine tgA ?_
  refine zW ⟨rfl,by simp [za,zZ],?_⟩
  refine Aq ?_
  exact fG
 ·
  refine goA 0 ?_
  refine oC (fun c1=>?_) fun c1=>?_
  ·
   simp [ee] at c1
   refine Aq ?_
   exact fG
  simp [ee] at c1
  refine Aq ?_
  refine oPA h1 ?_
  refine goA 0 ?_
  refine oC (fun c2=>?_) fun c2=>?_
  ·
   simp [ee] at c2
   refine Aq ?_
   exact fG
  simp [ee] at c2
  refine Aq ?_
  refine zb rfl (by conv=>lhs;cbv) rfl ?_
  refine tgA ?_
  refine oPT h2 ?_
  refine tgA ?_
  refine oPT h3 ?_
  refine tgA ?_
  refine zn rfl ?_
  refine tgA ?_
  refine zn rfl ?_
  refine oPT h4 ?_
  refine tgA ?_
  refine oPT h5 ?_
  refine tgA ?_
  refine zW ⟨rfl,by simp [za,zZ],?_⟩
  refine Aq ?_
  refine zb rfl (by conv=>lhs;cbv) rfl ?_
  refine tgA ?_
  refine oPT b1 ?_
  refine tgA ?_
  refine zn rfl ?_
  refine tgA ?_
  refine zn rfl ?_
  refine tgA ?_
  refine zn rfl ?_
  refine tgA ?_
  refine zn rfl ?_
  refine oPT b2 ?_
  refine tgA ?_
  refine zn rfl ?_
  refine tgA ?_
  refine zn rfl ?_
  refine tgA ?_
  refine zn rfl ?_
  refine tgA ?_
  refine zn rfl ?_
  refine oPT b3f ?_
  refine tgA ?_
  refine zn rfl ?_
  refine tgA ?_
  refine zn rfl ?_
  refine oPT h4 ?_
  refine zn rfl ?_
  refine tgA ?_
  refine zn rfl ?_
  refine tgA ?_
  refine zn rfl ?_
  refine oPT b4 ?_
  refine tgA ?_
  refine zW ⟨rfl,by simp [za,zZ],?_⟩
  refine Aq ?_
  refine oPA h6 ?_
  refine goA 0 ?_
  refine oC (fun c3=>?_) fun c3=>?_
  ·
   simp [ee] at c3
   refine Aq ?_
   exact fG
  simp [ee] at c3
  refine goA 0 ?_
  refine nsB hX (by conv=>lhs;cbv) ?_
  refine goA 0 ?_
  refine nsB hX (by conv=>lhs;cbv) ?_
  refine goA 0 ?_
  refine zj rfl rfl (fun c4=>?_) (fun c4=>?_)
  ·
   simp [ee] at c4
   refine Aq ?_
   refine zi rfl rfl ?_
   refine Aq ?_
   refine zi rfl rfl ?_
   refine Aq ?_
   exact fG
  simp [ee] at c4
  refine Aq ?_
  refine oPG h4 ?_
  refine goA 0 ?_
  refine goA 1 ?_
  refine goA 1 ?_
  refine nsB hX (by conv=>lhs;cbv) ?_
  refine goA 0 ?_
  refine zj rfl rfl (fun c5=>?_) (fun c5=>?_)
  ·
   simp [ee] at c5
   refine Aq ?_
   refine zi rfl rfl ?_
   refine Aq ?_
   exact fG
  simp [ee] at c5
  refine goA 1 ?_
  refine goA 1 ?_
  refine goA 1 ?_
  refine zj rfl rfl (fun c6=>?_) (fun c6=>?_)
  ·
   simp [ee] at c6
  simp [ee] at c6
  refine goA 1 ?_
  refine goA 1 ?_
  refine goA 1 ?_
  refine goA 1 ?_
  refine goA 1 ?_
  refine oC (fun c7=>?_) fun c7=>?_
  ·
   simp [ee] at c7
  simp [ee] at c7
  refine Aq ?_
  exact fG
 refine goA 0 ?_
 refine oC (fun c1=>?_) fun c1=>?_
 ·
  simp [ee] at c1
  refine Aq ?_
  exact fG
 simp [ee] at c1
 refine Aq ?_
 refine oPA h1 ?_
 refine goA 0 ?_
 refine oC (fun c2=>?_) fun c2=>?_
 ·
  simp [ee] at c2
  refine Aq ?_
  exact fG
 simp [ee] at c2
 refine Aq ?_
 refine zb rfl (by conv=>lhs;cbv) rfl ?_
 refine tgA ?_
 refine oPT h2 ?_
 refine tgA ?_
 refine oPT h3 ?_
 refine tgA ?_
 refine zn rfl ?_
 refine tgA ?_
 refine zn rfl ?_
 refine oPT h4 ?_
 refine tgA ?_
 refine oPT h5 ?_
 refine tgA ?_
 refine zW ⟨rfl,by simp [za,zZ],?_⟩
 refine Aq ?_
 refine zb rfl (by conv=>lhs;cbv) rfl ?_
 refine tgA ?_
 refine oPT b1 ?_
 refine tgA ?_
 refine zn rfl ?_
 refine tgA ?_
 refine zn rfl ?_
 refine tgA ?_
 refine zn rfl ?_
 refine tgA ?_
 refine zn rfl ?_
 refine oPT b2 ?_
 refine tgA ?_
 refine zn rfl ?_
 refine tgA ?_
 refine zn rfl ?_
 refine tgA ?_
 refine zn rfl ?_
 refine tgA ?_
 refine zn rfl ?_
 refine oPT b3f ?_
 refine tgA ?_
 refine zn rfl ?_
 refine tgA ?_
 refine zn rfl ?_
 refine oPT h4 ?_
 refine zn rfl ?_
 refine tgA ?_
 refine zn rfl ?_
 refine tgA ?_
 refine zn rfl ?_
 refine oPT b4 ?_
 refine tgA ?_
 refine zW ⟨rfl,by simp [za,zZ],?_⟩
 refine goA 0 ?_
 refine goA 1 ?_
 refine goA 1 ?_
 refine nsB hX (by conv=>lhs;cbv) ?_
 refine goA 0 ?_
 refine nsB hX (by conv=>lhs;cbv) ?_
 refine goA 0 ?_
 refine zj rfl rfl (fun c3=>?_) (fun c3=>?_)
 ·
  simp [ee] at c3
  refine Aq ?_
  refine zi rfl rfl ?_
  refine Aq ?_
  refine zi rfl rfl ?_
  refine Aq ?_
  exact fG
 simp [ee] at c3
 refine Aq ?_
 refine oPG h4 ?_
 refine goA 0 ?_
 refine goA 1 ?_
 refine goA 1 ?_
 refine nsB hX (by conv=>lhs;cbv) ?_
 refine goA 0 ?_
 refine zj rfl rfl (fun c4=>?_) (fun c4=>?_)
 ·
  simp [ee] at c4
  refine Aq ?_
  refine zi rfl rfl ?_
  refine Aq ?_
  exact fG
 simp [ee] at c4
 refine goA 1 ?_
 refine goA 1 ?_
 refine goA 1 ?_
 refine zj rfl rfl (fun c5=>?_) (fun c5=>?_)
 ·
  simp [ee] at c5
  refine Aq ?_
  refine yp rfl rfl h7 rfl ⟨[.gone],⟨trivial,trivial⟩,⟨.cl hccl,.agg' ⟨.refl _,.nilI _,.refl _,.refl _,.refl _,.refl _,.refl _,.refl _,trivial⟩,trivial⟩⟩ ?_
  refine goA 0 ?_
  refine goA 1 ?_
  refine oC (fun c6=>?_) fun c6=>?_
  ·
   simp [ee] at c6
   refine Aq ?_
   exact fG
  simp [ee] at c6
  refine Aq ?_
  exact fG
 simp [ee] at c5
def uV (l:Bs):Int:=((l.takeWhile xh).length:Int)
theorem take_all {l:Bs} (h:l.all xh=true):l.takeWhile xh=l:=by
 induction l with
 | nil=>rfl
 | cons c r ih =>
  rw [List.all_cons,Bool.and_eq_true] at h
  rw [List.takeWhile_cons,if_pos h.1,ih h.2]
theorem take_stop {l d r:Bs} {c:UInt8} (h:l=d++c :: r) (hd:d.all xh=true) (hc:xh c=false):l.takeWhile xh=d:=by
 subst h
 induction d with
 | nil=>simp [hc]
 | cons x d ih =>
  rw [List.all_cons,Bool.and_eq_true] at hd
  rw [List.cons_append,List.takeWhile_cons,if_pos hd.1,ih hd.2]
theorem take_len : ∀ l:Bs,(l.takeWhile xh).length=l.length→l.all xh=true
 | [],_=>rfl
 | c :: r,h=>by
  rw [List.takeWhile_cons] at h
  cases hc:xh c with
  | false=>rw [hc] at h;exact absurd h (by simp)
  | true =>
   rw [hc,if_pos rfl,List.length_cons,List.length_cons] at h
   rw [List.all_cons,hc,take_len r (by omega)];rfl
theorem word_len (l:Bs):uV l=(l.length:Int)↔l.all xh=true :=
 ⟨fun h=>take_len l (by unfold uV at h;omega),fun h=>by rw [uV,take_all h]⟩
theorem P_word (l:Bs) (hl:l.length<1048577):PCall EE 120 [str (ba l),int 0] (int (uV l)):=by
 have hsz:=wU l
 have hget:=fun d c r h=>tu l d r c h
 have p1:=fun n=>P_r6Letter n
 have p2:=fun n=>P_r6Digit n
 generalize ba l=s at *
 obtain ⟨R,hR⟩:∃ R,R=uV l:=⟨_,rfl⟩
 rw [← hR]
 refine zr ?_;unhygienic intros
 have hn:sLen s=(l.length:Int):=by simp only [ee];rw [hsz]
 have hat:∀ d c r,l=d++c :: r→∀ i:Int,i=d.length→sAt s i=ch c:=fun d c r h i hi=>by
  subst hi;simp only [ee,ch];rw [Int.toNat_natCast,hget d c r h]
 refine fB T120 [.t 4] ?_
 refine goA 0 ?_
 refine zf (ι:=Bs × Bs × Int) (fun p=>([(1,int p.2.2),(0,str s)],[])) (fun p=>l=p.1++p.2.1∧p.2.2=p.1.length∧p.1.all xh=true) (fun p=>p.2.1.length) ([],l,0) ⟨rfl,rfl,rfl⟩ ?_ ?_
 · exact zI ⟨.refl _,.refl _,trivial⟩
 rintro ⟨d,r,i⟩ ⟨g1,gi,ga⟩
 dsimp only at g1 gi ga ⊢
 have L1:=congrArg List.length g1
 rw [List.length_append] at L1
 cases r with
 | nil =>
  have L1:l.length=d.length:=L1
  have k1:iLt i (sLen s)=false:=by simp only [ee];simp;have:=hsz;omega
  rw [List.append_nil] at g1
  rw [← g1] at ga
  have hRi:R=i:=by rw [hR,uV,take_all ga,gi,L1]
  rw [hRi]
  clear hat p1 p2
  have fz:=k1
  refine Cq ?_
  refine Aq ?_
  refine zi rfl rfl ?_
  refine Aq ?_
  refine zo ?_
  refine Aq ?_
  exact fV
 | cons c r =>
  simp only [List.length_cons] at L1
  have k1:iLt i (sLen s)=true:=by simp only [ee];simp;have:=hsz;omega
  have hc:=hat d c r g1 i gi
  have q1:=p1 (ch c)
  have q2:=p2 (ch c)
  have hi2:iAdd .i64 i 1=((d++[c]).length:Int):=by rw [List.length_append];exact zJ e_iAdd gi (by omega)
  have hgood:xh c=true→(d++[c]).all xh=true:=fun e=>by rw [List.all_append,ga];simp [e]
  have hbad:xh c=false→R=i:=fun e=>by rw [hR,uV,take_stop g1 ga e,gi]
  rw [xh] at hgood hbad
  have hi0:0≤i∧i<sLen s:=by simp only [ee];have:=hsz;omega
  clear hat p1 p2 hR ga
  generalize ch c=n at *
  generalize yU n=bl at *
  generalize yC n=bd at *
  cases bl with
  | true =>
   have hgood:=hgood rfl
   have fz:=And.intro k1 hc
   refine Cq ?_
   refine Aq ?_
   refine yp rfl rfl q1 rfl ⟨[],trivial,⟨.of (by simp only [hc];rfl),trivial⟩⟩ ?_
   refine Cq ?_
   refine Cr ?_
   refine Cr ?_
   refine Cr ?_
   refine Cr ?_
   refine Cr ?_
   refine oC (fun c1=>?_) fun c1=>?_
   ·
    simp [ee] at c1
    refine Aq ?_
    refine zw (d++[c],r,iAdd .i64 i 1) ⟨by rw [g1];simp,hi2,hgood⟩ (by simp) (eS [] [])
   simp [ee] at c1
  | false =>
   cases bd with
   | true =>
    have hgood:=hgood rfl
    have fz:=And.intro k1 hc
    refine Cq ?_
    refine Aq ?_
    refine yp rfl rfl q1 rfl ⟨[],trivial,⟨.of (by simp only [hc];rfl),trivial⟩⟩ ?_
    refine Aq ?_
    refine yp rfl rfl q2 rfl ⟨[],trivial,⟨.of (by simp only [hc];rfl),trivial⟩⟩ ?_
    refine Cq ?_
    refine oC (fun c1=>?_) fun c1=>?_
    ·
     simp [ee] at c1
     refine Aq ?_
     refine zw (d++[c],r,iAdd .i64 i 1) ⟨by rw [g1];simp,hi2,hgood⟩ (by simp) (eS [] [])
    simp [ee] at c1
   | false =>
    rw [hbad rfl]
    have fz:=And.intro k1 hc
    refine Cq ?_
    refine Aq ?_
    refine yp rfl rfl q1 rfl ⟨[],trivial,⟨.of (by simp only [hc];rfl),trivial⟩⟩ ?_
    refine Aq ?_
    refine yp rfl rfl q2 rfl ⟨[],trivial,⟨.of (by simp only [hc];rfl),trivial⟩⟩ ?_
    refine Cq ?_
    refine oC (fun c1=>?_) fun c1=>?_
    ·
     simp [ee] at c1
    simp [ee] at c1
    refine Aq ?_
    refine zo ?_
    refine Aq ?_
    exact fV
theorem P_r6Keyword (s:Bs):PCall EE 121 [str (ba s)] (bool (kwB s)):=by
 have hl:=wV s
 obtain ⟨R,hR⟩:∃ R,R=kwB s:=⟨_,rfl⟩
 rw [← hR]
 rw [kwB,kws] at hR
 generalize ba s=b at *
 refine zr ?_;unhygienic intros
 have ke:∀ w:List UInt8,sEq b ⟨w.toArray⟩=decide (s=w):=fun w=>by
  simp only [ee];rw [hl,ByteArray.toList_eq];rw [Bool.eq_iff_iff];simp
 obtain ⟨b1,hb1⟩:∃ b1,b1=decide (s∈kws.take 14):=⟨_,rfl⟩
 obtain ⟨b2,hb2⟩:∃ b2,b2=decide (s∈kws.drop 14):=⟨_,rfl⟩
 have hRb:R=(b1 || b2):=by
  rw [hR,hb1,hb2,Bool.eq_iff_iff];simp [kws,or_assoc]
 clear hR
 rw [hRb]
 refine fB T121 [.t 2] ?_
 refine goA 0 ?_
 refine on_codeJ [(4,bool b1),(3,str b)] [] ?_ ?_
 · clear hRb hb2
   have fz:=ke
   refine Cq ?_
   refine Cq ?_
   refine oC (fun c1=>?_) fun c1=>?_
   ·
    simp [] at c1
    refine Aq ?_
    (refine ⟨rfl,zI ⟨.of (congrArg bool ?_),.refl _,trivial⟩⟩;first | (rw [hb1];simp [kws, *];done) | (rw [hb1];refine (ke _).trans ?_;simp [kws, *];done))
   simp [] at c1
   refine Cq ?_
   refine Cq ?_
   refine oC (fun c2=>?_) fun c2=>?_
   ·
    simp [] at c2
    refine Aq ?_
    (refine ⟨rfl,zI ⟨.of (congrArg bool ?_),.refl _,trivial⟩⟩;first | (rw [hb1];simp [kws, *];done) | (rw [hb1];refine (ke _).trans ?_;simp [kws, *];done))
   simp [] at c2
   refine Cq ?_
   refine Cq ?_
   refine oC (fun c3=>?_) fun c3=>?_
   ·
    simp [] at c3
    refine Aq ?_
    (refine ⟨rfl,zI ⟨.of (congrArg bool ?_),.refl _,trivial⟩⟩;first | (rw [hb1];simp [kws, *];done) | (rw [hb1];refine (ke _).trans ?_;simp [kws, *];done))
   simp [] at c3
   refine Cq ?_
   refine Cq ?_
   refine oC (fun c4=>?_) fun c4=>?_
   ·
    simp [] at c4
    refine Aq ?_
    (refine ⟨rfl,zI ⟨.of (congrArg bool ?_),.refl _,trivial⟩⟩;first | (rw [hb1];simp [kws, *];done) | (rw [hb1];refine (ke _).trans ?_;simp [kws, *];done))
   simp [] at c4
   refine Cq ?_
   refine Cq ?_
   refine oC (fun c5=>?_) fun c5=>?_
   ·
    simp [] at c5
    refine Aq ?_
    (refine ⟨rfl,zI ⟨.of (congrArg bool ?_),.refl _,trivial⟩⟩;first | (rw [hb1];simp [kws, *];done) | (rw [hb1];refine (ke _).trans ?_;simp [kws, *];done))
   simp [] at c5
   refine Cq ?_
   refine Cq ?_
   refine oC (fun c6=>?_) fun c6=>?_
   ·
    simp [] at c6
    refine Aq ?_
    (refine ⟨rfl,zI ⟨.of (congrArg bool ?_),.refl _,trivial⟩⟩;first | (rw [hb1];simp [kws, *];done) | (rw [hb1];refine (ke _).trans ?_;simp [kws, *];done))
   simp [] at c6
   refine Cq ?_
   refine Cq ?_
   refine oC (fun c7=>?_) fun c7=>?_
   ·
    simp [] at c7
    refine Aq ?_
    (refine ⟨rfl,zI ⟨.of (congrArg bool ?_),.refl _,trivial⟩⟩;first | (rw [hb1];simp [kws, *];done) | (rw [hb1];refine (ke _).trans ?_;simp [kws, *];done))
   simp [] at c7
   refine Cq ?_
   refine Cq ?_
   refine oC (fun c8=>?_) fun c8=>?_
   ·
    simp [] at c8
    refine Aq ?_
    (refine ⟨rfl,zI ⟨.of (congrArg bool ?_),.refl _,trivial⟩⟩;first | (rw [hb1];simp [kws, *];done) | (rw [hb1];refine (ke _).trans ?_;simp [kws, *];done))
   simp [] at c8
   refine Cq ?_
   refine Cq ?_
   refine oC (fun c9=>?_) fun c9=>?_
   ·
    simp [] at c9
    refine Aq ?_
    (refine ⟨rfl,zI ⟨.of (congrArg bool ?_),.refl _,trivial⟩⟩;first | (rw [hb1];simp [kws, *];done) | (rw [hb1];refine (ke _).trans ?_;simp [kws, *];done))
   simp [] at c9
   refine Cq ?_
   refine Cq ?_
   refine oC (fun c10=>?_) fun c10=>?_
   ·
    simp [] at c10
    refine Aq ?_
    (refine ⟨rfl,zI ⟨.of (congrArg bool ?_),.refl _,trivial⟩⟩;first | (rw [hb1];simp [kws, *];done) | (rw [hb1];refine (ke _).trans ?_;simp [kws, *];done))
   simp [] at c10
   refine Cq ?_
   refine Cq ?_
   refine oC (fun c11=>?_) fun c11=>?_
   ·
    simp [] at c11
    refine Aq ?_
    (refine ⟨rfl,zI ⟨.of (congrArg bool ?_),.refl _,trivial⟩⟩;first | (rw [hb1];simp [kws, *];done) | (rw [hb1];refine (ke _).trans ?_;simp [kws, *];done))
   simp [] at c11
   refine Cq ?_
   refine Cq ?_
   refine oC (fun c12=>?_) fun c12=>?_
   ·
    simp [] at c12
    refine Aq ?_
    (refine ⟨rfl,zI ⟨.of (congrArg bool ?_),.refl _,trivial⟩⟩;first | (rw [hb1];simp [kws, *];done) | (rw [hb1];refine (ke _).trans ?_;simp [kws, *];done))
   simp [] at c12
   refine Cq ?_
   refine Cq ?_
   refine oC (fun c13=>?_) fun c13=>?_
   ·
    simp [] at c13
    refine Aq ?_
    (refine ⟨rfl,zI ⟨.of (congrArg bool ?_),.refl _,trivial⟩⟩;first | (rw [hb1];simp [kws, *];done) | (rw [hb1];refine (ke _).trans ?_;simp [kws, *];done))
   simp [] at c13
   refine Aq ?_
   (refine ⟨rfl,zI ⟨.of (congrArg bool ?_),.refl _,trivial⟩⟩;first | (rw [hb1];simp [kws, *];done) | (rw [hb1];refine (ke _).trans ?_;simp [kws, *];done))
 cases b1 with
 | true =>
  refine Aq ?_
  exact fV
 | false =>
  refine goA 1 ?_
  refine on_codeJ [(19,bool b2),(3,str b)] [] ?_ ?_
  · clear hRb hb1
    have fz:=ke
    refine Cq ?_
    refine Cq ?_
    refine oC (fun c1=>?_) fun c1=>?_
    ·
     simp [] at c1
     refine Aq ?_
     (refine ⟨rfl,zI ⟨.of (congrArg bool ?_),.refl _,trivial⟩⟩;first | (rw [hb2];simp [kws, *];done) | (rw [hb2];refine (ke _).trans ?_;simp [kws, *];done))
    simp [] at c1
    refine Cq ?_
    refine Cq ?_
    refine oC (fun c2=>?_) fun c2=>?_
    ·
     simp [] at c2
     refine Aq ?_
     (refine ⟨rfl,zI ⟨.of (congrArg bool ?_),.refl _,trivial⟩⟩;first | (rw [hb2];simp [kws, *];done) | (rw [hb2];refine (ke _).trans ?_;simp [kws, *];done))
    simp [] at c2
    refine Cq ?_
    refine Cq ?_
    refine oC (fun c3=>?_) fun c3=>?_
    ·
     simp [] at c3
     refine Aq ?_
     (refine ⟨rfl,zI ⟨.of (congrArg bool ?_),.refl _,trivial⟩⟩;first | (rw [hb2];simp [kws, *];done) | (rw [hb2];refine (ke _).trans ?_;simp [kws, *];done))
    simp [] at c3
    refine Cq ?_
    refine Cq ?_
    refine oC (fun c4=>?_) fun c4=>?_
    ·
     simp [] at c4
     refine Aq ?_
     (refine ⟨rfl,zI ⟨.of (congrArg bool ?_),.refl _,trivial⟩⟩;first | (rw [hb2];simp [kws, *];done) | (rw [hb2];refine (ke _).trans ?_;simp [kws, *];done))
    simp [] at c4
    refine Cq ?_
    refine Cq ?_
    refine oC (fun c5=>?_) fun c5=>?_
    ·
     simp [] at c5
     refine Aq ?_
     (refine ⟨rfl,zI ⟨.of (congrArg bool ?_),.refl _,trivial⟩⟩;first | (rw [hb2];simp [kws, *];done) | (rw [hb2];refine (ke _).trans ?_;simp [kws, *];done))
    simp [] at c5
    refine Cq ?_
    refine Cq ?_
    refine oC (fun c6=>?_) fun c6=>?_
    ·
     simp [] at c6
     refine Aq ?_
     (refine ⟨rfl,zI ⟨.of (congrArg bool ?_),.refl _,trivial⟩⟩;first | (rw [hb2];simp [kws, *];done) | (rw [hb2];refine (ke _).trans ?_;simp [kws, *];done))
    simp [] at c6
    refine Cq ?_
    refine Cq ?_
    refine oC (fun c7=>?_) fun c7=>?_
    ·
     simp [] at c7
     refine Aq ?_
     (refine ⟨rfl,zI ⟨.of (congrArg bool ?_),.refl _,trivial⟩⟩;first | (rw [hb2];simp [kws, *];done) | (rw [hb2];refine (ke _).trans ?_;simp [kws, *];done))
    simp [] at c7
    refine Cq ?_
    refine Cq ?_
    refine oC (fun c8=>?_) fun c8=>?_
    ·
     simp [] at c8
     refine Aq ?_
     (refine ⟨rfl,zI ⟨.of (congrArg bool ?_),.refl _,trivial⟩⟩;first | (rw [hb2];simp [kws, *];done) | (rw [hb2];refine (ke _).trans ?_;simp [kws, *];done))
    simp [] at c8
    refine Cq ?_
    refine Cq ?_
    refine oC (fun c9=>?_) fun c9=>?_
    ·
     simp [] at c9
     refine Aq ?_
     (refine ⟨rfl,zI ⟨.of (congrArg bool ?_),.refl _,trivial⟩⟩;first | (rw [hb2];simp [kws, *];done) | (rw [hb2];refine (ke _).trans ?_;simp [kws, *];done))
    simp [] at c9
    refine Cq ?_
    refine Cq ?_
    refine oC (fun c10=>?_) fun c10=>?_
    ·
     simp [] at c10
     refine Aq ?_
     (refine ⟨rfl,zI ⟨.of (congrArg bool ?_),.refl _,trivial⟩⟩;first | (rw [hb2];simp [kws, *];done) | (rw [hb2];refine (ke _).trans ?_;simp [kws, *];done))
    simp [] at c10
    refine Cq ?_
    refine Cq ?_
    refine oC (fun c11=>?_) fun c11=>?_
    ·
     simp [] at c11
     refine Aq ?_
     (refine ⟨rfl,zI ⟨.of (congrArg bool ?_),.refl _,trivial⟩⟩;first | (rw [hb2];simp [kws, *];done) | (rw [hb2];refine (ke _).trans ?_;simp [kws, *];done))
    simp [] at c11
    refine Cq ?_
    refine Cq ?_
    refine oC (fun c12=>?_) fun c12=>?_
    ·
     simp [] at c12
     refine Aq ?_
     (refine ⟨rfl,zI ⟨.of (congrArg bool ?_),.refl _,trivial⟩⟩;first | (rw [hb2];simp [kws, *];done) | (rw [hb2];refine (ke _).trans ?_;simp [kws, *];done))
    simp [] at c12
    refine Cq ?_
    refine Cq ?_
    refine oC (fun c13=>?_) fun c13=>?_
    ·
     simp [] at c13
     refine Aq ?_
     (refine ⟨rfl,zI ⟨.of (congrArg bool ?_),.refl _,trivial⟩⟩;first | (rw [hb2];simp [kws, *];done) | (rw [hb2];refine (ke _).trans ?_;simp [kws, *];done))
    simp [] at c13
    refine Aq ?_
    (refine ⟨rfl,zI ⟨.of (congrArg bool ?_),.refl _,trivial⟩⟩;first | (rw [hb2];simp [kws, *];done) | (rw [hb2];refine (ke _).trans ?_;simp [kws, *];done))
  cases b2 with
  | true =>
   refine Aq ?_
   exact fV
  | false =>
   refine Aq ?_
   exact fV
theorem nmE_nil : nmE []=8:=by decide
theorem nmE_long {s:Bs} (h:24<s.length):nmE s=8:=by
 rw [nmE,if_neg];simp [nmB,nameB];intro h2;omega
theorem nmE_ref {s:Bs} {c:UInt8} {r:Bs} (h:s=c :: r) (hl:s.length≤24):nmE s=if yU (ch c)=true∧s.all xh=true∧kwB s=false then 0 else 8:=by
 rw [nmE]
 have:nmB s=true↔(yU (ch c)=true∧s.all xh=true∧kwB s=false):=by
  rw [nmB,nameB.eq_def,h]
  have h3:yC (ch c)=true→yU (ch c)=false:=by simp only [yC,yU];simp;omega
  have h4:xh c=(yU (ch c) || yC (ch c)):=rfl
  rw [h] at hl
  cases hd:yC (ch c)<;>cases hL:yU (ch c)<;>simp_all
 by_cases g:nmB s=true
 · rw [if_pos g,if_pos (this.1 g)]
 rw [if_neg g,if_neg (fun x=>g (this.2 x))]
theorem nmE_prog {s:Bs} {c:UInt8} {r:Bs} (h:s=c :: r) (hl:s.length≤24):nmE s=if yC (ch c)=true then 8 else if kwB s=true then 8 else if s.all xh=false then 8 else 0:=by
 rw [nmE,nmB,nameB.eq_def]
 subst h
 cases hd:yC (ch c)<;>cases hk:kwB (c :: r)<;>cases ha:(c :: r).all xh<;>simp_all
theorem okCh_any : ∀ s:Bs,(s.map ch).any (fun n=>!(yU n || yC n)) = !s.all xh
 | []=>rfl
 | c :: r=>by rw [List.map_cons,List.any_cons,okCh_any r,List.all_cons,xh];simp [Bool.not_and]
theorem P_Keyword (s:Bs) (hs:s.length<1048577):PCall EL 115 [str (ba s)] (bool (kwB s)):=by
 have p1:=P_strContains s [32] (by omega)
 have p2:=P_strContains (kwS kws) ([32]++s++[32]) (by rw [kwS_eq];simp)
 have hp:=kw_prog s
 obtain ⟨R,hR⟩:∃ R,R=kwB s:=⟨_,rfl⟩
 rw [← hR] at hp ⊢
 clear hR
 rw [vB [32]] at p1
 have hcat:ba ([32]++s++[32])=⟨#[32]⟩++ba s++⟨#[32]⟩:=by rw [← ba_app,← ba_app,vB [32]]
 rw [hcat,kwS_eq,vB [32,97,108,108,32,97,108,116,32,97,110,100,32,98,111,111,108,32,98,121,32,99,111,117,110,116,32,102,97,108,115,101,32,102,105,114,115,116,32,105,102,32,105,110,116,32,108,97,99,107,115,32,108,97,115,116,32,109,97,116,99,104,32,109,97,120,32,109,105,110,32,110,111,116,32,111,114,32,112,108,117,115,32,113,117,101,114,121,32,114,101,116,117,114,110,32,115,101,113,32,115,116,114,105,110,103,32,115,117,109,32,116,105,109,101,32,116,114,117,101,32,116,121,112,101,32,119,104,101,114,101,32,119,105,116,104,105,110,32]] at p2
 rw [kwS_eq] at hp
 have hl:=wV s
 have z0:=wU s
 have z1:(⟨#[32]⟩:ByteArray).size=1:=rfl
 have z2:((⟨#[32]⟩:ByteArray)++ba s).size=1+(ba s).size:=by rw [ByteArray.size_append,z1]
 have z3:(ByteArray.mk (Array.mk [32])).size=1:=rfl
 have z4:(ByteArray.mk (Array.mk [32])++ba s).size=1+(ba s).size:=by rw [ByteArray.size_append,z3]
 have h0:ba s=⟨#[]⟩↔s=[]:=⟨fun h=>ba_inj (h.trans (vB []).symm),fun h=>by rw [h,vB]⟩
 generalize ba s=b at *
 generalize Lib.contains s [32]=c1 at *
 generalize Lib.contains _ ([32]++s++[32])=c2 at *
 refine zr ?_;unhygienic intros
 have n0:bNot false=true:=by simp only [ee];rfl
 have n1:bNot true=false:=by simp only [ee];rfl
 have hcc:sCat (sCat ⟨#[32]⟩ b) ⟨#[32]⟩=⟨#[32]⟩++b++⟨#[32]⟩:=by simp only [ee]
 generalize (⟨#[32]⟩:ByteArray)++b++⟨#[32]⟩=b2 at *
 have ke:sNe b ⟨#[]⟩=decide (s≠[]):=by
  simp only [ee];rw [hl];rw [Bool.eq_iff_iff];simp [ByteArray.toList_eq]
 generalize decide (s≠[])=e0 at *
 clear h0 hl hcat
 subst hp
 refine fB T115 [.t 2] ?_
 cases e0 with
 | false =>
  have fz:=ke
  refine Cq ?_
  refine Aq ?_
  refine zi rfl rfl ?_
  refine Aq ?_
  exact fV
 | true =>
  cases c1 with
  | true =>
   have fz:=And.intro ke (And.intro n0 (And.intro n1 hcc))
   refine Cq ?_
   refine Aq ?_
   refine oPG p1 ?_
   refine Cq ?_
   refine zj rfl rfl (fun c1=>?_) (fun c1=>?_)
   ·
    simp [ee] at c1
   simp [ee] at c1
   refine Aq ?_
   exact fV
  | false =>
   have fz:=And.intro ke (And.intro n0 (And.intro n1 hcc))
   refine Cq ?_
   refine Aq ?_
   refine oPG p1 ?_
   refine Cq ?_
   refine zj rfl rfl (fun c1=>?_) (fun c1=>?_)
   ·
    simp [ee] at c1
    refine Aq ?_
    refine yp rfl rfl p2 rfl ⟨[],trivial,⟨.refl _,.of (by simp only [hcc];rfl),trivial⟩⟩ ?_
    refine Aq ?_
    exact fV
   simp [ee] at c1
theorem P_lxName (s:Bs) (hs:s.length<1048577):PCall EL 75 [str (ba s)] (int (nmE s)):=by
 have pk:=P_Keyword s hs
 have pc:=(P_ContainsFuncB 117 [] rfl (fun n=>!(yU n || yC n)) (s.map ch) (by simpa using hs) fun x _=>P_lxName1 x).toL
 rw [okCh_any s] at pc
 have hsz:=wU s
 have hda:=ur s
 have hget:=fun d c r h=>tu s d r c h
 have hl:=wV s
 generalize ba s=b at *
 have hby:byteA b=mapE u8A (s.map ch):=by
  rw [byteA,hda,zk,List.map_map];rfl
 obtain ⟨bs,hbs⟩:∃ z,z=mapE u8A (s.map ch):=⟨_,rfl⟩
 rw [← hbs] at hby pc
 have kbs:(AV.isl 1 bs).closed=true:=by rw [hbs];exact closedI_u8 _
 clear hbs
 refine zr ?_;unhygienic intros
 have hbt:bytA b=bs:=by simp only [ee];exact hby
 rw [← hbt] at pc kbs
 have hn:sLen b=(s.length:Int):=by simp only [ee];rw [hsz]
 obtain ⟨R,hR⟩:∃ R,R=nmE s:=⟨_,rfl⟩
 rw [← hR]
 have ke:sEq b ⟨#[]⟩=decide (s=[]):=by
  simp only [ee];rw [hl];rw [Bool.eq_iff_iff];simp [ByteArray.toList_eq]
 refine fB T75 [.t 2] ?_
 cases hs0:s with
 | nil =>
  rw [hs0,nmE_nil] at hR
  rw [hs0] at ke
  have ke:sEq b ⟨#[]⟩=true:=ke
  rw [hR]
  have fz:=ke
  refine Cq ?_
  refine zj rfl rfl (fun c1=>?_) (fun c1=>?_)
  ·
   simp [ee] at c1
   refine Aq ?_
   exact fV
  simp [ee] at c1
 | cons c r =>
 have ke:sEq b ⟨#[]⟩=false:=by rw [ke,hs0];rfl
 by_cases h24:24<s.length
 · have k1:iLt 24 (sLen b)=true:=by simp only [ee];simp;have:=hsz;omega
   rw [hR,nmE_long h24]
   have fz:=And.intro ke k1
   refine Cq ?_
   refine zj rfl rfl (fun c1=>?_) (fun c1=>?_)
   ·
    simp [ee] at c1
    refine Aq ?_
    exact fV
   simp [ee] at c1
 have k1:iLt 24 (sLen b)=false:=by simp only [ee];simp;have:=hsz;omega
 have kc:sAt b 0=ch c:=by simp only [ee,ch];exact congrArg Nat.cast (hget [] c r hs0)
 have k0:(0:Int)<sLen b:=by rw [hn,hs0,List.length_cons];omega
 have pd:=(P_lxdigit (ch c)).toL
 rw [nmE_prog hs0 (by omega)] at hR
 generalize yC (ch c)=bd at *
 generalize kwB s=bk at *
 generalize s.all xh=ba' at *
 cases bd with
 | true =>
  rw [if_pos rfl] at hR
  rw [hR]
  have fz:=And.intro ke (And.intro k1 kc)
  refine Cq ?_
  refine zj rfl rfl (fun c1=>?_) (fun c1=>?_)
  ·
   simp [ee] at c1
  simp [ee] at c1
  refine Aq ?_
  refine yp rfl rfl pd rfl ⟨[],trivial,⟨.of (by simp only [kc];rfl),trivial⟩⟩ ?_
  refine Aq ?_
  exact fV
 | false =>
 rw [if_neg (by decide)] at hR
 cases bk with
 | true =>
  rw [if_pos rfl] at hR
  rw [hR]
  have fz:=And.intro ke (And.intro k1 kc)
  refine Cq ?_
  refine zj rfl rfl (fun c1=>?_) (fun c1=>?_)
  ·
   simp [ee] at c1
  simp [ee] at c1
  refine Aq ?_
  refine yp rfl rfl pd rfl ⟨[],trivial,⟨.of (by simp only [kc];rfl),trivial⟩⟩ ?_
  refine Aq ?_
  refine oPG pk ?_
  refine Aq ?_
  exact fV
 | false =>
 rw [if_neg (by decide)] at hR
 cases ba' with
 | false =>
  rw [if_pos rfl] at hR
  rw [hR]
  have fz:=And.intro ke (And.intro k1 kc)
  refine Cq ?_
  refine zj rfl rfl (fun c1=>?_) (fun c1=>?_)
  ·
   simp [ee] at c1
  simp [ee] at c1
  refine Aq ?_
  refine yp rfl rfl pd rfl ⟨[],trivial,⟨.of (by simp only [kc];rfl),trivial⟩⟩ ?_
  refine Aq ?_
  refine oPG pk ?_
  refine Aq ?_
  refine oPA pc ?_
  refine Aq ?_
  exact fV
 | true =>
  rw [if_neg (by decide)] at hR
  rw [hR]
  have fz:=And.intro ke (And.intro k1 kc)
  refine Cq ?_
  refine zj rfl rfl (fun c1=>?_) (fun c1=>?_)
  ·
   simp [ee] at c1
  simp [ee] at c1
  refine Aq ?_
  refine yp rfl rfl pd rfl ⟨[],trivial,⟨.of (by simp only [kc];rfl),trivial⟩⟩ ?_
  refine Aq ?_
  refine oPG pk ?_
  refine Aq ?_
  refine oPA pc ?_
  refine Aq ?_
  exact fV
theorem P_r6Name (s:Bs) (hs:s.length<1048577):PCall EE 79 [str (ba s)] (int (nmE s)):=by
 have pk:=P_r6Keyword s
 have pw:=P_word s hs
 have hwl:=word_len s
 have hsz:=wU s
 have hget:=fun d c r h=>tu s d r c h
 have hl:=wV s
 generalize ba s=b at *
 refine zr ?_;unhygienic intros
 have n0:bNot false=true:=by simp only [ee];rfl
 have n1:bNot true=false:=by simp only [ee];rfl
 have hn:sLen b=(s.length:Int):=by simp only [ee];rw [hsz]
 obtain ⟨R,hR⟩:∃ R,R=nmE s:=⟨_,rfl⟩
 rw [← hR]
 have ke:sEq b ⟨#[]⟩=decide (s=[]):=by
  simp only [ee];rw [hl];rw [Bool.eq_iff_iff];simp [ByteArray.toList_eq]
 refine fB T79 [.t 2] ?_
 cases hs0:s with
 | nil =>
  rw [hs0,nmE_nil] at hR
  rw [hs0] at ke
  have ke:sEq b ⟨#[]⟩=true:=ke
  rw [hR]
  have fz:=ke
  refine Cq ?_
  refine zj rfl rfl (fun c1=>?_) (fun c1=>?_)
  ·
   simp [ee] at c1
   refine Aq ?_
   refine zi rfl rfl ?_
   refine Aq ?_
   refine zi rfl rfl ?_
   refine Aq ?_
   refine zi rfl rfl ?_
   refine Aq ?_
   refine zi rfl rfl ?_
   refine Aq ?_
   exact fV
  simp [ee] at c1
 | cons c r =>
 have ke:sEq b ⟨#[]⟩=false:=by rw [ke,hs0];rfl
 by_cases h24:24<s.length
 · have k1:iLt 24 (sLen b)=true:=by simp only [ee];simp;have:=hsz;omega
   rw [hR,nmE_long h24]
   have fz:=And.intro ke k1
   refine Cq ?_
   refine zj rfl rfl (fun c1=>?_) (fun c1=>?_)
   ·
    simp [ee] at c1
    refine Aq ?_
    refine zi rfl rfl ?_
    refine Aq ?_
    refine zi rfl rfl ?_
    refine Aq ?_
    refine zi rfl rfl ?_
    refine Aq ?_
    refine zi rfl rfl ?_
    refine Aq ?_
    exact fV
   simp [ee] at c1
 have k1:iLt 24 (sLen b)=false:=by simp only [ee];simp;have:=hsz;omega
 have kc:sAt b 0=ch c:=by simp only [ee,ch];exact congrArg Nat.cast (hget [] c r hs0)
 have k0:(0:Int)<sLen b:=by rw [hn,hs0,List.length_cons];omega
 have pd:=P_r6Letter (ch c)
 rw [nmE_ref hs0 (by omega)] at hR
 have kw2:s.all xh=true→iNe (uV s) (sLen b)=false:=fun h=>by rw [hn];simp only [ee];simpa using hwl.2 h
 have kw3:s.all xh=false→iNe (uV s) (sLen b)=true:=fun h=>by rw [hn];simp only [ee];simp;intro h2;rw [hwl.1 h2] at h;cases h
 clear hwl
 generalize yU (ch c)=bd at *
 generalize kwB s=bk at *
 generalize s.all xh=ba' at *
 generalize uV s=wn at *
 cases bd with
 | false =>
  rw [if_neg (by simp)] at hR
  rw [hR]
  have fz:=And.intro ke (And.intro k1 (And.intro kc (And.intro n0 n1)))
  refine Cq ?_
  refine zj rfl rfl (fun c1=>?_) (fun c1=>?_)
  ·
   simp [ee] at c1
  simp [ee] at c1
  refine Aq ?_
  refine yp rfl rfl pd rfl ⟨[],trivial,⟨.of (by simp only [kc];rfl),trivial⟩⟩ ?_
  refine Cq ?_
  refine zj rfl rfl (fun c2=>?_) (fun c2=>?_)
  ·
   simp [ee] at c2
   refine Aq ?_
   refine zi rfl rfl ?_
   refine Aq ?_
   refine zi rfl rfl ?_
   refine Aq ?_
   refine zi rfl rfl ?_
   refine Aq ?_
   exact fV
  simp [ee] at c2
 | true =>
 cases ba' with
 | false =>
  rw [if_neg (by simp)] at hR
  have kw3:=kw3 rfl
  rw [hR]
  have fz:=And.intro ke (And.intro k1 (And.intro kc (And.intro n0 (And.intro n1 kw3))))
  refine Cq ?_
  refine zj rfl rfl (fun c1=>?_) (fun c1=>?_)
  ·
   simp [ee] at c1
  simp [ee] at c1
  refine Aq ?_
  refine yp rfl rfl pd rfl ⟨[],trivial,⟨.of (by simp only [kc];rfl),trivial⟩⟩ ?_
  refine Cq ?_
  refine zj rfl rfl (fun c2=>?_) (fun c2=>?_)
  ·
   simp [ee] at c2
  simp [ee] at c2
  refine Aq ?_
  refine oPG pw ?_
  refine Cq ?_
  refine zj rfl rfl (fun c3=>?_) (fun c3=>?_)
  ·
   simp [ee] at c3
   refine Aq ?_
   exact fV
  simp [ee] at c3
 | true =>
 have kw2:=kw2 rfl
 cases bk with
 | true =>
  rw [if_neg (by simp)] at hR
  rw [hR]
  have fz:=And.intro ke (And.intro k1 (And.intro kc (And.intro n0 (And.intro n1 kw2))))
  refine Cq ?_
  refine zj rfl rfl (fun c1=>?_) (fun c1=>?_)
  ·
   simp [ee] at c1
  simp [ee] at c1
  refine Aq ?_
  refine yp rfl rfl pd rfl ⟨[],trivial,⟨.of (by simp only [kc];rfl),trivial⟩⟩ ?_
  refine Cq ?_
  refine zj rfl rfl (fun c2=>?_) (fun c2=>?_)
  ·
   simp [ee] at c2
  simp [ee] at c2
  refine Aq ?_
  refine oPG pw ?_
  refine Cq ?_
  refine zj rfl rfl (fun c3=>?_) (fun c3=>?_)
  ·
   simp [ee] at c3
  simp [ee] at c3
  refine Aq ?_
  refine oPG pk ?_
  refine Aq ?_
  exact fV
 | false =>
  rw [if_pos (by simp)] at hR
  rw [hR]
  have fz:=And.intro ke (And.intro k1 (And.intro kc (And.intro n0 (And.intro n1 kw2))))
  refine Cq ?_
  refine zj rfl rfl (fun c1=>?_) (fun c1=>?_)
  ·
   simp [ee] at c1
  simp [ee] at c1
  refine Aq ?_
  refine yp rfl rfl pd rfl ⟨[],trivial,⟨.of (by simp only [kc];rfl),trivial⟩⟩ ?_
  refine Cq ?_
  refine zj rfl rfl (fun c2=>?_) (fun c2=>?_)
  ·
   simp [ee] at c2
  simp [ee] at c2
  refine Aq ?_
  refine oPG pw ?_
  refine Cq ?_
  refine zj rfl rfl (fun c3=>?_) (fun c3=>?_)
  ·
   simp [ee] at c3
  simp [ee] at c3
  refine Aq ?_
  refine oPG pk ?_
  refine Aq ?_
  exact fV
end Go.Am
end
