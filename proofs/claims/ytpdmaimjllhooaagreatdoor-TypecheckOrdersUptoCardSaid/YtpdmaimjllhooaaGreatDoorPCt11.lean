/- Contracts of the program's functions. -/
import Derived.Test.YtpdmaimjllhooaaGreatDoorProg
import Derived.Test.YtpdmaimjllhooaaGreatDoorPCt8
import Derived.Test.YtpdmaimjllhooaaGreatDoorCards
import Derived.Test.YtpdmaimjllhooaaGreatDoorRows
import Derived.Test.YtpdmaimjllhooaaGreatDoorTie
section
set_option maxHeartbeats 16000000
set_option maxRecDepth 100000
namespace Go.Am
open Go.Proofs
theorem tests_or {o:Int} (h:wp o=true):o=0∨o=5∨o=7:=by unfold wp at h;simpa using h
theorem arg_sm {p e:Pat} (hs:p.Sm) (h:p.args=[e]):e.Sm:=by
 obtain ⟨o,a,t,v,s,n,c⟩:=p
 simp only [Pat.args] at h
 exact hs.arg (by rw [h];simp)
theorem arg_wf {p e:Pat} (hs:p.wf) (h:p.args=[e]):e.wf:=by
 obtain ⟨o,a,t,v,s,n,c⟩:=p
 simp only [Pat.args] at h
 exact hs.arg (by rw [h];simp)
theorem one_lt {p:Pat}:[p.var].length<1048577:=by simp
theorem P_own (p:Pat) (hs:p.Sm) (hw:p.wf) (ht:wp p.op=true) (l:Plc) (hl:l.ok):PCall EE 102 [p.enc,l.enc] (p.own l).enc:=by
 have ho:=tests_or ht
 have q1:=vL l.us [p.var] (by have:=hl.2.2.1;omega) one_lt
 have q2:=vL l.si [p.var] (by have:=hl.2.2.2;omega) one_lt
 have hone:mapE int [p.var]=[int p.var]:=by rw [zn];rfl
 rw [hone] at q1 q2
 have hLU:=zq l.us
 have hLS:=zq l.si
 have hcl:=Pat.closed p
 have hwn:=hw.self.2.2.2.2
 have hR:(p.own l).enc=_:=rfl
 rw [hR]
 unfold Pat.own
 by_cases h0:p.op=0
 · rw [if_pos h0]
   simp only [Plc.enc]
   have r1:=zq (yQ l.us [p.var])
   have r2:=zq (yQ l.si [p.var])
   generalize mapE int (yQ l.us [p.var])=A1 at *
   generalize mapE int (yQ l.si [p.var])=A2 at *
   generalize mapE int l.us=LU at *
   generalize mapE int l.si=LS at *
   obtain ⟨pO,pA,pT,pV,pS,pN,pCo,pCa,pCv,pCf,pCk,pXk,pXn,pXt,hx,hxc,hpO,hpA,hpT,hpV,hpS,hpN⟩:=Pat.form2 p
   rw [hx] at hcl ⊢
   rw [← hpO] at h0
   rw [← hpV] at q1 q2
   have hpAI:(AV.isl 14 pA).closed=true:=by have:=hcl;simp [AV.closed,AV.closedL] at this ⊢;exact this.1
   have hpCI:(AV.isl 8 pCa).closed=true:=by have:=hcl;simp [AV.closed,AV.closedL] at this ⊢;exact this.2
   have hvc:(AV.isl 1 [int pV]).closed=true:=rfl
   clear hx hxc hpA hR hone hwn ho
   refine zt ?_;unhygienic intros
   have k0:iEq pO 0=true:=by simp only [ee];simpa using h0
   refine fB T102 [.cell 4 3 true] ?_
   have fz:=k0
   refine Cq ?_
   refine Aq ?_
   refine x6 (F':=[(5,.isl 1 [int pV]),(2,.ptr 0 0),(3,.ptr 1 0),(4,.ptr 2 0)]) (H':=[.cells [int pO,.isl 14 pA,int pT,int pV,int pS,int pN,int pCo,.isl 8 pCa,int pCv,int pCf,int pCk,int pXk,int pXn,str pXt],.cells [.isl 1 LU,.isl 1 LS,int l.fb],.cells [.val (.slice none 0 0),.val (.slice none 0 0),int 0]]) ?_ ?_
   · exact (yj [.to 0,.to 1,.to 2,.isl 1 ([AV.val (Value.int IntKind.i64 pV)])] [some 0,some 1,some 2] ⟨⟨by simp,rfl⟩,⟨by simp,rfl⟩,⟨by simp,rfl⟩,⟨_,rfl,(zx _ (by rfl)).symm⟩,trivial⟩ ⟨zk (b:=0) rfl rfl rfl ⟨.refl _,.cl hpAI,.refl _,.refl _,.refl _,.refl _,.refl _,.cl hpCI,.refl _,.refl _,.refl _,.refl _,.refl _,.refl _,trivial⟩,zk (b:=1) rfl rfl rfl ⟨.cl hLU,.cl hLS,.refl _,trivial⟩,zk (b:=2) rfl rfl rfl ⟨.refl _,.refl _,.refl _,trivial⟩,trivial⟩ ⟨.refl _,.refl _,.refl _,.refl _,trivial⟩)
   refine Aq ?_
   refine zP rfl (by conv=>lhs;cbv) rfl ?_
   refine tgA ?_
   refine oPT q1 ?_
   refine tgA ?_
   refine oPT q2 ?_
   refine tgA ?_
   refine zH ⟨rfl,by simp [zK,zV],?_⟩
   refine Aq ?_
   exact fE [.gone,.gone,.gone]
 rw [if_neg h0]
 obtain ⟨e,he⟩:=hwn (by omega)
 have hes:=arg_sm hs he
 have hew:=arg_wf hw he
 have hea:p.arg0=e:=by unfold Pat.arg0;rw [he];rfl
 rw [hea]
 have q3:=P_Bound e hes
 have q4:=vL l.us e.bound (by have:=hl.2.2.1;omega) (by have:=bound_len hew;omega)
 have hub:(yQ l.us e.bound).length<1048577:=by have:=uni_len l.us e.bound;have:=hl.2.2.1;have:=bound_len hew;omega
 have q5:=vL (yQ l.us e.bound) [p.var] hub one_lt
 have q6:=P_ones e hes hew
 have q7:=vL l.si e.ones (by have:=hl.2.2.2;omega) (by have:=ones_len hew;omega)
 rw [hone] at q5
 have hae:mapE Pat.enc p.args=[e.enc]:=by rw [he,zn];rfl
 have hec:=Pat.closed e
 by_cases h5:p.op=5
 · rw [if_pos h5]
   simp only [Plc.enc]
   have r1:=zq (yQ (yQ l.us e.bound) [p.var])
   have r2:=zq (yQ l.si [p.var])
   have r3:=zq e.bound
   have r4:=zq (yQ l.us e.bound)
   clear q6 q7
   generalize mapE int (yQ (yQ l.us e.bound) [p.var])=A1 at *
   generalize mapE int (yQ l.si [p.var])=A2 at *
   generalize mapE int (yQ l.us e.bound)=A3 at *
   generalize mapE int e.bound=A4 at *
   generalize mapE int l.us=LU at *
   generalize mapE int l.si=LS at *
   obtain ⟨pO,pA,pT,pV,pS,pN,pCo,pCa,pCv,pCf,pCk,pXk,pXn,pXt,hx,hxc,hpO,hpA,hpT,hpV,hpS,hpN⟩:=Pat.form2 p
   rw [hx] at hcl ⊢
   rw [← hpO] at h0 h5
   rw [← hpV] at q1 q2 q5
   rw [← hpA] at hae
   have hpAI:(AV.isl 14 pA).closed=true:=by have:=hcl;simp [AV.closed,AV.closedL] at this ⊢;exact this.1
   have hpCI:(AV.isl 8 pCa).closed=true:=by have:=hcl;simp [AV.closed,AV.closedL] at this ⊢;exact this.2
   obtain ⟨eO,eA,eT,eV,eS,eN,eCo,eCa,eCv,eCf,eCk,eXk,eXn,eXt,hy⟩:=Pat.form e
   rw [hy] at q3 hae hec
   clear hx hxc hpA hR hone hwn ho
   subst hae
   have hvc:(AV.isl 1 [int pV]).closed=true:=rfl
   refine zt ?_;unhygienic intros
   have k0:iEq pO 0=false:=by simp only [ee];simpa using h0
   have k5:iEq pO 5=true:=by simp only [ee];simpa using h5
   have a0:atA [.agg [int eO,.isl 14 eA,int eT,int eV,int eS,int eN,int eCo,.isl 8 eCa,int eCv,int eCf,int eCk,int eXk,int eXn,str eXt]] 0=.agg [int eO,.isl 14 eA,int eT,int eV,int eS,int eN,int eCo,.isl 8 eCa,int eCv,int eCf,int eCk,int eXk,int eXn,str eXt]:=by simp only [ee];rfl
   refine fB T102 [.cell 4 3 true] ?_
   have fz:=k0
   refine Cq ?_
   have fz:=k5
   refine Cr ?_
   refine x6 (F':=[(22,.val (.bool true)),(5,.isl 1 [int pV]),(2,.ptr 0 0),(3,.ptr 1 0),(4,.ptr 2 0)]) (H':=[.cells [int pO,.isl 14 [.agg [int eO,.isl 14 eA,int eT,int eV,int eS,int eN,int eCo,.isl 8 eCa,int eCv,int eCf,int eCk,int eXk,int eXn,str eXt]],int pT,int pV,int pS,int pN,int pCo,.isl 8 pCa,int pCv,int pCf,int pCk,int pXk,int pXn,str pXt],.cells [.isl 1 LU,.isl 1 LS,int l.fb],.cells [.val (.slice none 0 0),.val (.slice none 0 0),int 0]]) ?_ ?_
   · exact (yj [.to 0,.to 1,.to 2,.isl 1 ([AV.val (Value.int IntKind.i64 pV)])] [some 0,some 1,some 2] ⟨⟨by simp,rfl⟩,⟨by simp,rfl⟩,⟨by simp,rfl⟩,⟨_,rfl,(zx _ (by rfl)).symm⟩,trivial⟩ ⟨zk (b:=0) rfl rfl rfl ⟨.refl _,.cl hpAI,.refl _,.refl _,.refl _,.refl _,.refl _,.cl hpCI,.refl _,.refl _,.refl _,.refl _,.refl _,.refl _,trivial⟩,zk (b:=1) rfl rfl rfl ⟨.cl hLU,.cl hLS,.refl _,trivial⟩,zk (b:=2) rfl rfl rfl ⟨.refl _,.refl _,.refl _,trivial⟩,trivial⟩ ⟨.refl _,.refl _,.refl _,.refl _,.refl _,trivial⟩)
   have fz:=And.intro a0 k5
   refine Cq ?_
   refine Cr ?_
   refine zP rfl (by conv=>lhs;cbv) rfl ?_
   refine tgC ?_
   refine oPT q3 ?_
   refine oPT q4 ?_
   refine tgA ?_
   refine oPT q5 ?_
   refine tgA ?_
   refine oPT q2 ?_
   refine tgA ?_
   refine zH ⟨rfl,by simp [zK,zV],?_⟩
   refine Aq ?_
   refine zD rfl rfl ?_
   exact ⟨[.gone,.gone,.gone],⟨trivial,trivial,trivial,trivial⟩,.agg' ⟨.cl r1,.cl r2,.of (congrArg int (by assumption)),trivial⟩⟩
 rw [if_neg h5]
 simp only [Plc.enc]
 have r1:=zq (yQ l.us e.bound)
 have r2:=zq (yQ l.si e.ones)
 have r3:=zq e.bound
 have r4:=zq e.ones
 clear q5 q1 q2
 generalize mapE int (yQ l.us e.bound)=A1 at *
 generalize mapE int (yQ l.si e.ones)=A2 at *
 generalize mapE int e.bound=A4 at *
 generalize mapE int e.ones=A5 at *
 generalize mapE int l.us=LU at *
 generalize mapE int l.si=LS at *
 obtain ⟨pO,pA,pT,pV,pS,pN,pCo,pCa,pCv,pCf,pCk,pXk,pXn,pXt,hx,hxc,hpO,hpA,hpT,hpV,hpS,hpN⟩:=Pat.form2 p
 rw [hx] at hcl ⊢
 rw [← hpO] at h0 h5
 rw [← hpA] at hae
 have hpAI:(AV.isl 14 pA).closed=true:=by have:=hcl;simp [AV.closed,AV.closedL] at this ⊢;exact this.1
 have hpCI:(AV.isl 8 pCa).closed=true:=by have:=hcl;simp [AV.closed,AV.closedL] at this ⊢;exact this.2
 obtain ⟨eO,eA,eT,eV,eS,eN,eCo,eCa,eCv,eCf,eCk,eXk,eXn,eXt,hy⟩:=Pat.form e
 rw [hy] at q3 q6 hae hec
 clear hx hxc hpA hR hone hwn ho
 subst hae
 refine zt ?_;unhygienic intros
 have k0:iEq pO 0=false:=by simp only [ee];simpa using h0
 have k5:iEq pO 5=false:=by simp only [ee];simpa using h5
 have a0:atA [.agg [int eO,.isl 14 eA,int eT,int eV,int eS,int eN,int eCo,.isl 8 eCa,int eCv,int eCf,int eCk,int eXk,int eXn,str eXt]] 0=.agg [int eO,.isl 14 eA,int eT,int eV,int eS,int eN,int eCo,.isl 8 eCa,int eCv,int eCf,int eCk,int eXk,int eXn,str eXt]:=by simp only [ee];rfl
 refine fB T102 [.cell 4 3 true] ?_
 have fz:=k0
 refine Cq ?_
 have fz:=k5
 refine Cr ?_
 have fz:=And.intro a0 k5
 refine Cr ?_
 refine zP rfl (by conv=>lhs;cbv) rfl ?_
 refine tgC ?_
 refine oPT q3 ?_
 refine oPT q4 ?_
 refine tgC ?_
 refine oPT q6 ?_
 refine oPT q7 ?_
 refine tgA ?_
 refine zH ⟨rfl,by simp [zK,zV],?_⟩
 refine Aq ?_
 exact fE [.gone,.gone,.gone,.gone]
open Classical in
theorem folE_red (s:Plc) (e:Ex):tU s e=if 1≤e.op∧e.op≤4 then (if decide (e.var∈s.us)=false then 10 else if (e.op=1∨e.op=2)∧decide (e.var∈s.si)=false then 11 else if ¬ (e.op=1∨e.op=2)∧e.var=s.fb then 11 else 0) else 0:=by
 unfold tU
 by_cases h:1≤e.op∧e.op≤4
 · rw [if_pos h,if_pos h]
   by_cases h1:e.var∈s.us
   · rw [if_neg (show ¬ (e.var∉s.us) from fun hh=>hh h1),if_neg (show ¬ (decide (e.var∈s.us)=false) by simpa using h1)]
     by_cases h2:e.op=1∨e.op=2
     · have h2':¬ (e.op=3∨e.op=4):=by omega
       by_cases h3:e.var∈s.si
       · rw [if_neg (show ¬ (((e.op=1∨e.op=2)∧e.var∉s.si)∨((e.op=3∨e.op=4)∧e.var=s.fb)) from fun hh=>hh.elim (fun hh=>hh.2 h3) (fun hh=>h2' hh.1)),if_neg (show ¬ ((e.op=1∨e.op=2)∧decide (e.var∈s.si)=false) from fun hh=>by simp [h3] at hh),if_neg (show ¬ (¬ (e.op=1∨e.op=2)∧e.var=s.fb) from fun hh=>hh.1 h2)]
       rw [if_pos (show ((e.op=1∨e.op=2)∧e.var∉s.si)∨((e.op=3∨e.op=4)∧e.var=s.fb) from .inl ⟨h2,h3⟩),if_pos (show (e.op=1∨e.op=2)∧decide (e.var∈s.si)=false from ⟨h2,by simpa using h3⟩)]
     have h2':e.op=3∨e.op=4:=by omega
     rw [if_neg (show ¬ ((e.op=1∨e.op=2)∧decide (e.var∈s.si)=false) from fun hh=>h2 hh.1)]
     by_cases h4:e.var=s.fb
     · rw [if_pos (show ((e.op=1∨e.op=2)∧e.var∉s.si)∨((e.op=3∨e.op=4)∧e.var=s.fb) from .inr ⟨h2',h4⟩),if_pos (show ¬ (e.op=1∨e.op=2)∧e.var=s.fb from ⟨h2,h4⟩)]
     rw [if_neg (show ¬ (((e.op=1∨e.op=2)∧e.var∉s.si)∨((e.op=3∨e.op=4)∧e.var=s.fb)) from fun hh=>hh.elim (fun hh=>h2 hh.1) (fun hh=>h4 hh.2)),if_neg (show ¬ (¬ (e.op=1∨e.op=2)∧e.var=s.fb) from fun hh=>h4 hh.2)]
   rw [if_pos h1,if_pos (show decide (e.var∈s.us)=false by simpa using h1)]
 rw [if_neg h,if_neg h]
def tV (o v fb:Int) (bu bs:Bool):Int :=
 if 1≤o∧o≤4 then (if bu=false then 10 else if (o=1∨o=2)∧bs=false then 11 else if ¬ (o=1∨o=2)∧v=fb then 11 else 0) else 0
theorem folV_a {o v fb:Int} {bs:Bool} (h:1≤o∧o≤4):tV o v fb false bs=10:=by unfold tV;rw [if_pos h,if_pos rfl]
theorem folV_b {o v fb:Int} (h:1≤o∧o≤4) (h2:o=1∨o=2):tV o v fb true false=11:=by
 unfold tV
 rw [if_pos h,if_neg (show ¬ (true=false) by decide),if_pos (show (o=1∨o=2)∧false=false from ⟨h2,rfl⟩)]
theorem folV_c {o v fb:Int} {bs:Bool} (h:1≤o∧o≤4) (h2:¬ (o=1∨o=2)) (h3:v=fb):tV o v fb true bs=11:=by
 unfold tV
 rw [if_pos h,if_neg (show ¬ (true=false) by decide),if_neg (show ¬ ((o=1∨o=2)∧bs=false) from fun h=>h2 h.1),if_pos ⟨h2,h3⟩]
theorem folV_d {o v fb:Int} {bu bs:Bool} (h1:¬ ((1≤o∧o≤4)∧bu=false)) (h2:¬ ((1≤o∧o≤4)∧(o=1∨o=2)∧bs=false)) (h3:¬ ((1≤o∧o≤4)∧¬ (o=1∨o=2)∧v=fb)):tV o v fb bu bs=0:=by
 unfold tV
 by_cases h:1≤o∧o≤4
 · rw [if_pos h,if_neg (fun g=>h1 ⟨h,g⟩),if_neg (fun g=>h2 ⟨h,g⟩),if_neg (fun g=>h3 ⟨h,g⟩)]
 rw [if_neg h]
theorem P_follows (s:Plc) (hu:s.us.length<1048577) (hsi:s.si.length<1048577):∀ e:Ex,e.Sm→PCall EE 101 [e.enc,s.enc] (int (e.fol s)):=by
 refine Ex.ind ?_
 intro o a v f k x ih hs
 have hlen:=hs.len
 have hih:∀ q∈a,PCall EE 101 [q.enc,s.enc] (int (q.fol s)):=fun q hq=>ih q hq (hs.arg hq)
 have hcl:=Ex.closedI a
 have hpc:=Ex.closed (.mk o a v f k x)
 have q1:=P_Contains s.us v hu
 have q2:=P_Contains s.si v hsi
 have hsc:=s.closed
 obtain ⟨R,hR⟩:∃ R,R=Ex.fol s (.mk o a v f k x):=⟨_,rfl⟩
 rw [← hR]
 unfold Ex.fol at hR hih
 have hfo:tU s (.mk o a v f k x)=tV o v s.fb (decide (v∈s.us)) (decide (v∈s.si)):=by rw [folE_red];rfl
 rw [Ex.nodes,zu,hfo] at hR
 clear hfo
 simp only [Plc.enc] at hih hsc ⊢
 have hLU:=zq s.us
 have hLS:=zq s.si
 obtain ⟨xk,xn,xt⟩:=x
 rw [Ex.enc_mk] at hpc ⊢
 dsimp only at hpc ⊢
 generalize mapE int s.us=LU at *
 generalize mapE int s.si=LS at *
 generalize decide (v∈s.us)=bu at *
 generalize decide (v∈s.si)=bs at *
 generalize s.fb=fb at *
 clear ih hs hu hsi
 refine zt ?_;unhygienic intros
 generalize hes:mapE Ex.enc a=es at *
 have hel:es.length=a.length:=by rw [← hes,zr]
 have n0:bNot false=true:=by simp only [ee];rfl
 have n1:bNot true=false:=by simp only [ee];rfl
 have oT:∀ b,bOr true b=true:=fun b=>by simp only [ee];rfl
 have oF:∀ b,bOr false b=b:=fun b=>by simp only [ee];rfl
 have aT:∀ b,bAnd true b=b:=fun b=>by simp only [ee];rfl
 have aF:∀ b,bAnd false b=false:=fun b=>by simp only [ee];rfl
 refine fB T101 [.t 4] ?_
 by_cases e1:(1≤o∧o≤4)∧bu=false
 · obtain ⟨h14,rfl⟩:=e1
   have kin:bAnd (iLe 1 o) (iLe o 4)=true:=by simp only [ee];simpa using h14
   rw [folV_a h14,if_pos (by decide)] at hR
   by_cases h12:o=1∨o=2
   · have k3:bOr (iEq o 1) (iEq o 2)=true:=by simp only [ee];simpa using h12
     have fz:=And.intro kin (And.intro k3 (And.intro n0 (And.intro n1 (And.intro oT (And.intro oF (And.intro aT aF))))))
     refine Cq ?_
     refine Aq ?_
     refine oPA q1 ?_
     refine Cq ?_
     refine Aq ?_
     exact fI (h:=hR.symm)
   have k3:bOr (iEq o 1) (iEq o 2)=false:=by simp only [ee];simpa using h12
   have fz:=And.intro kin (And.intro k3 (And.intro n0 (And.intro n1 (And.intro oT (And.intro oF (And.intro aT aF))))))
   refine Cq ?_
   refine Aq ?_
   refine oPA q1 ?_
   refine Cq ?_
   refine Aq ?_
   exact fI (h:=hR.symm)
 by_cases e2:(1≤o∧o≤4)∧(o=1∨o=2)∧bs=false
 · obtain ⟨h14,h12,rfl⟩:=e2
   obtain rfl:bu=true:=by cases bu;exact absurd ⟨h14,rfl⟩ e1;rfl
   have kin:bAnd (iLe 1 o) (iLe o 4)=true:=by simp only [ee];simpa using h14
   have k3:bOr (iEq o 1) (iEq o 2)=true:=by simp only [ee];simpa using h12
   rw [folV_b h14 h12,if_pos (by decide)] at hR
   have fz:=And.intro kin (And.intro k3 (And.intro n0 n1))
   refine Cq ?_
   refine Aq ?_
   refine oPA q1 ?_
   have fz:=And.intro kin (And.intro k3 (And.intro n0 (And.intro n1 (And.intro oT (And.intro oF (And.intro aT aF))))))
   refine Cq ?_
   refine Aq ?_
   refine oPG q2 ?_
   refine Cq ?_
   refine Aq ?_
   exact fI (h:=hR.symm)
 by_cases e3:(1≤o∧o≤4)∧¬ (o=1∨o=2)∧v=fb
 · obtain ⟨h14,h12,hvf⟩:=e3
   obtain rfl:bu=true:=by cases bu;exact absurd ⟨h14,rfl⟩ e1;rfl
   have kin:bAnd (iLe 1 o) (iLe o 4)=true:=by simp only [ee];simpa using h14
   have k3:bOr (iEq o 1) (iEq o 2)=false:=by simp only [ee];simpa using h12
   have kf:iEq v fb=true:=by simp only [ee];simpa using hvf
   rw [folV_c h14 h12 hvf,if_pos (by decide)] at hR
   have fz:=And.intro kin (And.intro k3 (And.intro kf (And.intro n0 (And.intro n1 (And.intro oT (And.intro oF (And.intro aT aF)))))))
   refine Cq ?_
   refine Aq ?_
   refine oPA q1 ?_
   refine Cq ?_
   refine Aq ?_
   refine zg rfl rfl ?_
   refine Cq ?_
   refine Cr ?_
   refine Aq ?_
   exact fI (h:=hR.symm)
 replace hR:R=zu (tU s) (Ex.nodesL a):=by
  rw [folV_d e1 e2 e3,if_neg (by decide)] at hR
  exact hR
 have hco:¬ (1≤o∧o≤4)∨((1≤o∧o≤4)∧(o=1∨o=2)∧bu=true∧bs=true)∨((1≤o∧o≤4)∧¬ (o=1∨o=2)∧bu=true∧v≠fb):=by
  by_cases h14:1≤o∧o≤4
  · have hbu:bu=true:=by cases bu;exact absurd ⟨h14,rfl⟩ e1;rfl
    by_cases h12:o=1∨o=2
    · exact .inr (.inl ⟨h14,h12,hbu,by cases bs;exact absurd ⟨h14,h12,rfl⟩ e2;rfl⟩)
    exact .inr (.inr ⟨h14,h12,hbu,fun h=>e3 ⟨h14,h12,h⟩⟩)
  exact .inl h14
 clear e1 e2 e3
 rcases hco with h14 | ⟨h14,h12,hbu,hbs⟩ | ⟨h14,h12,hbu,hvf⟩
 case' inl =>
  have kin:bAnd (iLe 1 o) (iLe o 4)=false:=by simp only [ee];simpa using h14
  have k3:=n0
  have kf:=n1
  have fz:=And.intro kin (And.intro k3 (And.intro kf (And.intro n0 (And.intro n1 (And.intro oT (And.intro oF (And.intro aT aF)))))))
  refine Cq ?_
  refine Aq ?_
  refine x6 (F':=[(54,int 0),(53,int (lenA es)),(52,.isl 8 es),(2,.ptr 0 0),(3,.ptr 1 0)]) (H':=[.cells [int o,.isl 8 es,int v,int f,int k,int xk,int xn,str xt],.cells [.isl 1 LU,.isl 1 LS,int fb]]) ?_ ?_
  · exact (eS [.to 0,.to 1] [some 0,some 1])
  clear kin k3 kf h14
 case' inr.inl =>
  subst hbu hbs
  have kin:bAnd (iLe 1 o) (iLe o 4)=true:=by simp only [ee];simpa using h14
  have k3:bOr (iEq o 1) (iEq o 2)=true:=by simp only [ee];simpa using h12
  have kf:=n1
  have fz:=And.intro kin (And.intro k3 (And.intro kf (And.intro n0 n1)))
  refine Cq ?_
  refine Aq ?_
  refine oPA q1 ?_
  have fz:=And.intro kin (And.intro k3 (And.intro kf (And.intro n0 (And.intro n1 (And.intro oT (And.intro oF (And.intro aT aF)))))))
  refine Cq ?_
  refine Aq ?_
  refine oPG q2 ?_
  refine Cq ?_
  refine Cr ?_
  refine Aq ?_
  refine x6 (F':=[(54,int 0),(53,int (lenA es)),(52,.isl 8 es),(2,.ptr 0 0),(3,.ptr 1 0)]) (H':=[.cells [int o,.isl 8 es,int v,int f,int k,int xk,int xn,str xt],.cells [.isl 1 LU,.isl 1 LS,int fb]]) ?_ ?_
  · exact (eS [.to 0,.to 1] [some 0,some 1])
  clear kin k3 kf h14 h12
 case' inr.inr =>
  subst hbu
  have kin:bAnd (iLe 1 o) (iLe o 4)=true:=by simp only [ee];simpa using h14
  have k3:bOr (iEq o 1) (iEq o 2)=false:=by simp only [ee];simpa using h12
  have kf:iEq v fb=false:=by simp only [ee];simpa using hvf
  have fz:=And.intro kin (And.intro k3 (And.intro kf (And.intro n0 (And.intro n1 (And.intro oT (And.intro oF (And.intro aT aF)))))))
  refine Cq ?_
  refine Aq ?_
  refine oPA q1 ?_
  refine Cq ?_
  refine Aq ?_
  refine zg rfl rfl ?_
  refine Cq ?_
  refine Cr ?_
  refine Aq ?_
  refine x6 (F':=[(54,int 0),(53,int (lenA es)),(52,.isl 8 es),(2,.ptr 0 0),(3,.ptr 1 0)]) (H':=[.cells [int o,.isl 8 es,int v,int f,int k,int xk,int xn,str xt],.cells [.isl 1 LU,.isl 1 LS,int fb]]) ?_ ?_
  · exact (eS [.to 0,.to 1] [some 0,some 1])
  clear kin k3 kf h14 h12 hvf
 all_goals
  clear q1 q2
  refine za (ι:=List Ex × List Ex × Int) (fun p=>([(54,int p.2.2),(53,int (lenA es)),(52,.isl 8 es),(2,.ptr 0 0),(3,.ptr 1 0)],[.cells [int o,.isl 8 es,int v,int f,int k,int xk,int xn,str xt],.cells [.isl 1 LU,.isl 1 LS,int fb]])) (fun p=>a=p.1++p.2.1∧p.2.2=p.1.length∧R=zu (tU s) (Ex.nodesL p.2.1)) (fun p=>p.2.1.length) ([],a,0) ⟨rfl,rfl,hR⟩ ?_ ?_
  · exact (eS [.to 0,.to 1] [some 0,some 1])
  rintro ⟨d,r,i⟩ ⟨g1,gi,gR⟩
  dsimp only at g1 gi gR ⊢
  cases r with
  | nil =>
   have L1:=zw g1
   try simp only [List.length] at L1
   have hc:iLt i (lenA es)=false:=xg e_iLt e_lenA (by omega)
   have gR:R=0:=gR
   have fz:=hc
   refine Cq ?_
   refine Aq ?_
   refine zl ?_
   refine Aq ?_
   exact fI (h:=gR.symm)
  | cons q r =>
   have L1:=zw g1
   try simp only [List.length] at L1
   have hc:iLt i (lenA es)=true:=xf e_iLt e_lenA (by omega)
   have hat:=z7 e_atA hes g1 gi
   have hq:=hih q (by rw [g1];simp)
   have hqc:=Ex.closed q
   rw [Ex.nodesL,yr] at gR
   have hi2:iAdd .i64 i 1=((d++[q]).length:Int):=by rw [List.length_append];exact yq e_iAdd gi (by omega)
   generalize zu (tU s) q.nodes=fq at *
   obtain ⟨qO,qA,qV,qF,qK,qXk,qXn,qXt,hx⟩:=Ex.form q
   rw [hx] at hat hqc hq
   by_cases h2:fq=0
   · have w2:iNe fq 0=false:=by simp only [ee];simpa using h2
     rw [if_neg (by simpa using h2)] at gR
     have fz:=And.intro hc (And.intro hat w2)
     refine Cq ?_
     refine Cr ?_
     refine oPA hq ?_
     refine Cq ?_
     refine Aq ?_
     refine zp (d++[q],r,iAdd .i64 i 1) ⟨by simp [g1],hi2,gR⟩ (by simp) (eS [.to 0,.to 1,.gone] [some 0,some 1])
   have w2:iNe fq 0=true:=by simp only [ee];simpa using h2
   rw [if_pos h2] at gR
   have fz:=And.intro hc (And.intro hat w2)
   refine Cq ?_
   refine Cr ?_
   refine oPA hq ?_
   refine Cq ?_
   refine Aq ?_
   refine zi ?_
   refine Aq ?_
   exact fI (h:=gR.symm)
mutual
def Pat.tot (lim:Nat):Pat→Nat
 | .mk _ a _ _ _ _ _=>Pat.totL lim 1 a
def Pat.totL (lim:Nat):Nat→List Pat→Nat
 | n,[]=>n
 | n,e :: r=>if n≤lim then Pat.totL lim (n+e.tot lim) r else n
end
theorem Pat.totL_le {lim:Nat} {l:List Pat} (h:∀ e∈l,e.tot lim≤e.cnt):∀ n,Pat.totL lim n l≤n+Pat.cntL l:=by
 induction l with
 | nil=>intro n;simp [Pat.totL]
 | cons e r ih =>
  intro n
  have h1:=h e (by simp)
  have h2:=ih (fun e he=>h e (by simp [he])) (n+e.tot lim)
  simp only [Pat.totL,Pat.cntL];split<;>omega
theorem Pat.tot_le (lim:Nat):∀ e:Pat,e.tot lim≤e.cnt:=Pat.ind fun o a t v s n c h=>by
 have:=Pat.totL_le h 1
 simp only [Pat.tot,Pat.cnt];omega
theorem Pat.totL_eq {lim:Nat} {l:List Pat} (h:∀ e∈l,e.cnt≤lim→e.tot lim=e.cnt):∀ n,n+Pat.cntL l≤lim→Pat.totL lim n l=n+Pat.cntL l:=by
 induction l with
 | nil=>intro n _;simp [Pat.totL,Pat.cntL]
 | cons e r ih =>
  intro n hn
  simp only [Pat.cntL] at hn ⊢
  have h1:=h e (by simp) (by omega)
  rw [Pat.totL,if_pos (by omega),ih (fun e he=>h e (by simp [he])) _ (by omega)];omega
theorem Pat.tot_eq {lim:Nat}:∀ e:Pat,e.cnt≤lim→e.tot lim=e.cnt:=Pat.ind fun o a t v s n c h hl=>by
 simp only [Pat.tot,Pat.cnt] at hl ⊢
 exact Pat.totL_eq h 1 hl
theorem Pat.totL_gt {lim:Nat} {l:List Pat} (h:∀ e∈l,lim<e.cnt→lim<e.tot lim):∀ n,lim<n+Pat.cntL l→lim<Pat.totL lim n l:=by
 induction l with
 | nil=>intro n hn;simpa [Pat.totL,Pat.cntL] using hn
 | cons e r ih =>
  intro n hn
  simp only [Pat.cntL] at hn
  rw [Pat.totL]
  split
  · refine ih (fun e he=>h e (by simp [he])) _ ?_
    by_cases hc:e.cnt≤lim
    · rw [Pat.tot_eq e hc];omega
    have:=h e (by simp) (by omega);omega
  omega
theorem Pat.tot_gt {lim:Nat}:∀ e:Pat,lim<e.cnt→lim<e.tot lim:=Pat.ind fun o a t v s n c h hl=>by
 simp only [Pat.tot,Pat.cnt] at hl ⊢
 exact Pat.totL_gt h 1 hl
theorem Pat.tot_iff (e:Pat) (lim:Nat):e.tot lim≤lim↔e.cnt≤lim:=by
 by_cases h:e.cnt≤lim
 · rw [Pat.tot_eq e h]
 have:=Pat.tot_gt (lim:=lim) e (by omega);omega
theorem P_ref09_Total (lim:Nat) (hlim:lim≤1099511627776):∀ p:Pat,p.Sm→PCall EE 86 [p.enc,int lim] (int (p.tot lim)):=by
 generalize hli:(lim:Int)=li
 refine Pat.ind ?_
 intro o a t v s n c ih hs
 obtain ⟨co,ca,cv,cf,ck,xk,xn,xt⟩:=c
 have hlen:=hs.len
 have hih:∀ q∈a,PCall EE 86 [q.enc,int li] (int (q.tot lim)):=fun q hq=>ih q hq (hs.arg hq)
 have hcl:=Pat.closedI a
 have hce:=Ex.closedI ca
 have hcnt:Pat.cntL a≤1048576:=by have hs:=hs.1;simp only [Pat.cnt] at hs;omega
 have hde:=fun q:Pat=>Pat.tot_le lim q
 simp only [Pat.tot]
 obtain ⟨R,hR⟩:∃ R,R=Pat.totL lim 1 a:=⟨_,rfl⟩
 rw [← hR,Pat.enc_mk]
 refine zt ?_;unhygienic intros
 generalize hes:mapE Pat.enc a=es at *
 generalize mapE Ex.enc ca=ec at *
 have hel:es.length=a.length:=by rw [← hes,zr]
 refine fB T86 [.t 4] ?_
 refine Aq ?_
 refine za (ι:=List Pat × List Pat × Int × Int) (fun p=>([(5,int p.2.2.2),(6,int p.2.2.1),(1,int li),(2,.ptr 0 0)],[.cells [int o,.isl 14 es,int t,int v,int s,int n,int co,.isl 8 ec,int cv,int cf,int ck,int xk,int xn,str xt]])) (fun p=>a=p.1++p.2.1∧p.2.2.1=p.1.length∧p.2.2.2≤1+Pat.cntL p.1∧0≤p.2.2.2∧R=Pat.totL lim p.2.2.2.toNat p.2.1) (fun p=>p.2.1.length) ([],a,0,1) ⟨rfl,rfl,by simp [Pat.cntL],by simp,hR⟩ ?_ ?_
 · exact (eS [.to 0] [some 0])
 rintro ⟨d,r,i,nn⟩ ⟨g1,gi,gn,gp,gt⟩
 dsimp only at g1 gi gn gp gt ⊢
 have hnt:(nn.toNat:Int)=nn:=Int.toNat_of_nonneg gp
 cases r with
 | nil =>
  have L1:=zw g1
  try simp only [List.length] at L1
  have hc:iLt i (lenA es)=false:=xg e_iLt e_lenA (by omega)
  rw [Pat.totL] at gt
  have hv:nn=(R:Int):=by omega
  have hb:∀ b,bAnd false b=false:=by simp [ee]
  have fz:=And.intro hc hb
  refine Cq ?_
  refine Aq ?_
  refine zl ?_
  refine Aq ?_
  exact fI (h:=hv)
 | cons q r =>
  have L1:=zw g1
  try simp only [List.length] at L1
  have hc:iLt i (lenA es)=true:=xf e_iLt e_lenA (by omega)
  have hat:=z7 e_atA hes g1 gi
  have hq:=hih q (by rw [g1];simp)
  have hqc:=Pat.closed q
  have hqd:=hde q
  rw [g1,Pat.cntL_append,Pat.cntL] at hcnt
  obtain ⟨qO,qA,qT,qV,qS,qN,qCo,qCa,qCv,qCf,qCk,qXk,qXn,qXt,hx⟩:=Pat.form q
  rw [hx] at hq hat hqc
  have hb:∀ b,bAnd true b=b:=by simp [ee]
  rw [Pat.totL] at gt
  by_cases hle:nn≤li
  · have h2:iLe nn li=true:=by simp [ee];omega
    rw [if_pos (by omega)] at gt
    generalize hqn:(q.tot lim:Int)=qn at hq
    have hn2:iAdd .i64 nn qn=nn+qn:=wZ e_iAdd (by omega) (by omega)
    have hi2:iAdd .i64 i 1=((d++[q]).length:Int):=by rw [List.length_append];exact yq e_iAdd gi (by omega)
    have hn4:iAdd .i64 nn qn≤1+Pat.cntL (d++[q])∧0≤iAdd .i64 nn qn:=by rw [Pat.cntL_append,Pat.cntL,Pat.cntL,hn2];omega
    have hn3:(iAdd .i64 nn qn).toNat=nn.toNat+q.tot lim:=by omega
    have fz:=And.intro hc (And.intro hat (And.intro hb h2))
    refine Cq ?_
    refine Cr ?_
    refine oPA hq ?_
    refine Aq ?_
    refine zp (d++[q],r,iAdd .i64 i 1,iAdd .i64 nn qn) ⟨by simp [g1],hi2,hn4.1,hn4.2,hn3 ▸ gt⟩ (by simp) (eS [.to 0] [some 0])
  have h2:iLe nn li=false:=by simp [ee];omega
  rw [if_neg (by omega)] at gt
  have hv:nn=(R:Int):=by omega
  have fz:=And.intro hc (And.intro hat (And.intro hb h2))
  refine Cq ?_
  refine Aq ?_
  refine zl ?_
  refine Aq ?_
  exact fI (h:=hv)
theorem vz {α:Type} {l:List α} {n:Nat} (h:n<l.length):∃ d x r,l=d++x :: r∧d.length=n∧l[n]? = some x:=by
 refine ⟨l.take n,l[n],l.drop (n+1),?_,by simp;omega,by rw [List.getElem?_eq_getElem h]⟩
 rw [List.getElem_cons_drop,List.take_append_drop]
theorem P_leaf (ts:List Sch) (vs:List Vr) (e:Ex) (_hts:ts.length<1048577) (_hvs:vs.length<1048577) (hfs:∀ s∈ts,s.fs.length<1048577) (hin:∀ v∈vs,0≤v.ty∧v.ty<ts.length) (hv:0≤e.var) (hf:0≤e.fld) :
 PCall EE 133 [.agg [.isl 2 (mapE Sch.enc ts),.isl 2 (mapE Vr.enc vs)],e.enc] (.tup [int (wn ts vs e.op e.var e.fld e.kind e.val.kind).1,int (wn ts vs e.op e.var e.fld e.kind e.val.kind).2]):=by
 have kts:=Sch.closedI ts
 have kvs:=Vr.closedI vs
 have hsu:=fun k=>P_expr_suits e.kind ⟨k,0,⟨#[]⟩⟩
 obtain ⟨o,a,v,f,k,⟨xk,xn,xt⟩⟩:=e
 have kea:=Ex.closedI a
 simp only [Ex.op,Ex.var,Ex.fld,Ex.kind,Ex.val] at hv hf hsu ⊢
 obtain ⟨R,hR⟩:∃ R,R=wn ts vs o v f k xk:=⟨_,rfl⟩
 rw [← hR,Ex.enc_mk]
 unfold wn at hR
 simp only [Vl.enc,Vl.cs] at hsu
 generalize mapE Ex.enc a=ea at *
 dsimp only
 by_cases h1:o=0
 · rw [if_pos h1] at hR
   subst hR h1
   generalize mapE Sch.enc ts=ets at *
   generalize mapE Vr.enc vs=evs at *
   refine zt ?_;unhygienic intros
   have k1:iEq 0 0=true:=by simp only [ee];rfl
   refine fB tX [.t 4,.t 5] ?_
   have fz:=k1
   refine Cq ?_
   refine Aq ?_
   exact fE [.gone,.gone]
 rw [if_neg h1] at hR
 by_cases h2:¬ v<vs.length
 · rw [if_pos h2] at hR
   subst hR
   have hel:=zr Vr.enc vs
   generalize mapE Sch.enc ts=ets at *
   generalize mapE Vr.enc vs=evs at *
   refine zt ?_;unhygienic intros
   have k1:iEq o 0=false:=by simp only [ee];simpa using h1
   have k2:iLe (lenA evs) v=true:=by simp only [ee];simp;omega
   refine fB tX [.t 4,.t 5] ?_
   have fz:=And.intro k1 k2
   refine Cq ?_
   refine Cr ?_
   refine Aq ?_
   exact fE [.gone,.gone]
 rw [if_neg h2] at hR
 have h2':v<vs.length:=by omega
 by_cases h3:o=2∨o=3
 · rw [if_pos h3] at hR
   subst hR
   have hel:=zr Vr.enc vs
   generalize mapE Sch.enc ts=ets at *
   generalize mapE Vr.enc vs=evs at *
   refine zt ?_;unhygienic intros
   have k2:iLe (lenA evs) v=false:=by simp only [ee];simp;omega
   rcases h3 with rfl | rfl
   · have k1:iEq 2 0=false:=by simp only [ee];rfl
     have k3:iEq 2 2=true:=by simp only [ee];rfl
     refine fB tX [.t 4,.t 5] ?_
     have fz:=And.intro k1 (And.intro k2 k3)
     refine Cq ?_
     refine Cr ?_
     refine Cr ?_
     refine oC (fun c1=>?_) fun c1=>?_
     ·
      simp [ee] at c1
      refine Aq ?_
      exact fE [.gone,.gone]
     simp [ee] at c1
   have k1:iEq 3 0=false:=by simp only [ee];rfl
   have k3:iEq 3 2=false:=by simp only [ee];rfl
   have k4:iEq 3 3=true:=by simp only [ee];rfl
   refine fB tX [.t 4,.t 5] ?_
   have fz:=And.intro k1 (And.intro k2 (And.intro k3 k4))
   refine Cq ?_
   refine Cr ?_
   refine Cr ?_
   refine oC (fun c1=>?_) fun c1=>?_
   ·
    simp [ee] at c1
    refine Aq ?_
    exact fE [.gone,.gone]
   simp [ee] at c1
 rw [if_neg h3] at hR
 obtain ⟨d1,x,r1,e1,e2,e3⟩:=vz (l:=vs) (n:=v.toNat) (by omega)
 rw [e3] at hR
 dsimp only at hR
 have hx:=hin x (by rw [e1];simp)
 obtain ⟨d2,s,r2,e4,e5,e6⟩:=vz (l:=ts) (n:=x.ty.toNat) (by omega)
 rw [e6] at hR
 dsimp only at hR
 have hs:=hfs s (by rw [e4];simp)
 have t1:v=(d1.length:Int):=by omega
 have t2:x.ty=(d2.length:Int):=by omega
 have hel:=zr Vr.enc vs
 have hel2:=zr Sch.enc ts
 have hel3:=zr Fld.enc s.fs
 have kfs:=Fld.closedI s.fs
 generalize hets:mapE Sch.enc ts=ets at *
 generalize hevs:mapE Vr.enc vs=evs at *
 generalize hefs:mapE Fld.enc s.fs=efs at *
 refine zt ?_;unhygienic intros
 have k1:iEq o 0=false:=by simp only [ee];simpa using h1
 have k2:iLe (lenA evs) v=false:=by simp only [ee];simp;omega
 have k3:iEq o 2=false:=by simp only [ee];simp;omega
 have k4:iEq o 3=false:=by simp only [ee];simp;omega
 have hat1:=z7 e_atA hevs e1 t1
 have hat2:=z7 e_atA hets e4 t2
 rw [Vr.enc_eq] at hat1
 rw [Sch.enc_eq,hefs] at hat2
 have b1:0≤v∧v<lenA evs:=by simp only [ee];omega
 have b2:0≤x.ty∧x.ty<lenA ets:=by simp only [ee];omega
 generalize ba x.nm=xnm at *
 generalize ba s.nm=snm at *
 obtain ⟨xty,hxty⟩:∃ z,z=x.ty:=⟨_,rfl⟩
 rw [← hxty] at hat1 hat2 b2
 by_cases h4:¬ f<s.fs.length
 · rw [if_pos h4] at hR
   subst hR
   have k5:iLe (lenA efs) f=true:=by simp only [ee];simp;omega
   refine fB tX [.t 4,.t 5] ?_
   have fz:=And.intro k1 (And.intro k2 (And.intro k3 (And.intro k4 (And.intro k5 (And.intro hat1 hat2)))))
   refine Cq ?_
   refine Cr ?_
   refine Cr ?_
   refine oC (fun c1=>?_) fun c1=>?_
   ·
    simp [ee] at c1
   simp [ee] at c1
   refine Cq ?_
   refine Aq ?_
   exact fE [.gone,.gone]
 rw [if_neg h4] at hR
 obtain ⟨d3,g,r3,e7,e8,e9⟩:=vz (l:=s.fs) (n:=f.toNat) (by omega)
 rw [e9] at hR
 dsimp only at hR
 have t3:f=(d3.length:Int):=by omega
 have hat3:=z7 e_atA hefs e7 t3
 rw [Fld.enc_eq] at hat3
 have b3:0≤f∧f<lenA efs:=by simp only [ee];omega
 have k5:iLe (lenA efs) f=false:=by simp only [ee];simp;omega
 have hsg:=hsu g.kd
 generalize ba g.nm=gnm at *
 generalize g.kd=gk at *
 generalize vJ k ⟨gk,0,⟨#[]⟩⟩=sb at *
 by_cases h5:o=4
 · subst h5
   have k6:iEq 4 4=true:=by simp only [ee];rfl
   by_cases h6:gk=xk
   · subst h6
     have k7:iNe gk gk=false:=by simp only [ee];simp
     have n0:bNot false=true:=by simp only [ee];rfl
     have n1:bNot true=false:=by simp only [ee];rfl
     cases sb with
     | true =>
      rw [if_neg (by simp)] at hR
      subst hR
      refine fB tX [.t 4,.t 5] ?_
      have fz:=And.intro k1 (And.intro k2 (And.intro k3 (And.intro k4 (And.intro k5 (And.intro k6 (And.intro k7 (And.intro n0 (And.intro n1 (And.intro hat1 (And.intro hat2 hat3))))))))))
      refine Cq ?_
      refine Cr ?_
      refine Cr ?_
      refine oC (fun c1=>?_) fun c1=>?_
      ·
       simp [ee] at c1
      simp [ee] at c1
      refine Cq ?_
      refine Cr ?_
      refine Cr ?_
      refine Cr ?_
      refine Cr ?_
      refine Cr ?_
      refine Cr ?_
      refine Aq ?_
      refine oPG hsg ?_
      refine Cq ?_
      refine Cr ?_
      refine oC (fun c2=>?_) fun c2=>?_
      ·
       simp [ee] at c2
      simp [ee] at c2
      refine Aq ?_
      exact fE [.gone,.gone]
     | false =>
      rw [if_pos (by simp)] at hR
      subst hR
      refine fB tX [.t 4,.t 5] ?_
      have fz:=And.intro k1 (And.intro k2 (And.intro k3 (And.intro k4 (And.intro k5 (And.intro k6 (And.intro k7 (And.intro n0 (And.intro n1 (And.intro hat1 (And.intro hat2 hat3))))))))))
      refine Cq ?_
      refine Cr ?_
      refine Cr ?_
      refine oC (fun c1=>?_) fun c1=>?_
      ·
       simp [ee] at c1
      simp [ee] at c1
      refine Cq ?_
      refine Cr ?_
      refine Cr ?_
      refine Cr ?_
      refine Cr ?_
      refine Cr ?_
      refine Cr ?_
      refine Aq ?_
      refine oPG hsg ?_
      refine Cq ?_
      refine Cr ?_
      refine oC (fun c2=>?_) fun c2=>?_
      ·
       simp [ee] at c2
       refine Aq ?_
       exact fE [.gone,.gone]
      simp [ee] at c2
   rw [if_pos (by simp [h6])] at hR
   subst hR
   have k7:iNe gk xk=true:=by simp only [ee];simpa using h6
   refine fB tX [.t 4,.t 5] ?_
   have fz:=And.intro k1 (And.intro k2 (And.intro k3 (And.intro k4 (And.intro k5 (And.intro k6 (And.intro k7 (And.intro hat1 (And.intro hat2 hat3))))))))
   refine Cq ?_
   refine Cr ?_
   refine Cr ?_
   refine oC (fun c1=>?_) fun c1=>?_
   ·
    simp [ee] at c1
   simp [ee] at c1
   refine Cq ?_
   refine Cr ?_
   refine Cr ?_
   refine Cr ?_
   refine Cr ?_
   refine Cr ?_
   refine Cr ?_
   refine Cr ?_
   refine Cr ?_
   refine Cr ?_
   refine Cr ?_
   refine Cr ?_
   refine Cr ?_
   refine Cr ?_
   refine oC (fun c2=>?_) fun c2=>?_
   ·
    simp [ee] at c2
    refine Aq ?_
    exact fE [.gone,.gone]
   simp [ee] at c2
 rw [if_neg (by simp [h5])] at hR
 subst hR
 have k6:iEq o 4=false:=by simp only [ee];simpa using h5
 refine fB tX [.t 4,.t 5] ?_
 have fz:=And.intro k1 (And.intro k2 (And.intro k3 (And.intro k4 (And.intro k5 (And.intro k6 (And.intro hat1 (And.intro hat2 hat3)))))))
 refine Cq ?_
 refine Cr ?_
 refine Cr ?_
 refine oC (fun c1=>?_) fun c1=>?_
 ·
  simp [ee] at c1
 simp [ee] at c1
 refine Cq ?_
 refine Cr ?_
 refine Aq ?_
 refine zg rfl rfl ?_
 refine Aq ?_
 exact fE [.gone,.gone]
def zA (o:Int) (p:Pat) (e:Ex):Pat:=.mk o [p] 0 0 0 0 e
theorem wq (o:Int) (p:Pat) (e:Ex):(zA o p e).nodes=zA o p e :: p.nodes:=by simp [zA,Pat.nodes,Pat.nodesL]
theorem wrap_cnt (o:Int) (p:Pat) (e:Ex):(zA o p e).cnt=p.cnt+1:=by simp [zA,Pat.cnt,Pat.cntL];omega
theorem wrap_dep (o:Int) (p:Pat) (e:Ex):(zA o p e).dep=p.dep+1:=by simp [zA,Pat.dep,Pat.depL]
theorem wrap_lf (o:Int) (p:Pat) (e:Ex):Pat.lf PlcS (zA o p e)=(zA o p e,PlcS) :: Pat.lf PlcS p:=by
 simp [zA,Pat.lf,Pat.lfL]
theorem wrap_sm {o:Int} {p:Pat} {e:Ex} (hp:p.Sm) (he:e.Sm) (h:p.cnt<64):(zA o p e).Sm:=by
 refine (Pat.Sm_iff _).2 ⟨by rw [wq,List.length_cons,Pat.nodes_len];omega,fun q hq=>?_⟩
 rw [wq] at hq
 rcases List.mem_cons.1 hq with rfl | hq
 · exact he
 exact ((Pat.Sm_iff p).1 hp).2 q hq
theorem wrap_chk {o:Int} {p:Pat} {e:Ex} (ho:(o=4∧e=Ex0)∨(o=7∧e.chk=0)) (h:p.chk=0) (h1:p.cnt<64) (h2:p.dep<12):(zA o p e).chk=0:=by
 obtain ⟨k1,k2⟩:=vb h
 obtain ⟨k3,k4,k5⟩:=w9 k1
 have n0:(zA o p e).nodeE=0:=by
  rcases ho with ⟨rfl,rfl⟩ | ⟨rfl,he⟩
  · simp [Pat.nodeE,zA,Pat.op,Pat.args,Pat.ty,Pat.var,Pat.scope,Pat.span,Pat.cond,wd,vc,zJ,xP,yP,xx]
  simp [Pat.nodeE,zA,Pat.op,Pat.args,Pat.ty,Pat.var,Pat.scope,Pat.span,Pat.cond,wd,vc,zJ,xP,yP,xx,he]
 have o8:(zA o p e).op<8∧zJ (zA o p e).op=false∧yP (zA o p e).op=false:=by
  rcases ho with ⟨rfl,rfl⟩ | ⟨rfl,he⟩<;>simp [zA,Pat.op,zJ,yP]
 have c1:(zA o p e).chkR=0:=by
  rw [Pat.chkR,wrap_cnt,wrap_dep,if_neg (by omega),if_neg (by omega)]
  refine xc fun q hq=>?_
  rw [wq] at hq
  rcases List.mem_cons.1 hq with rfl | hq
  · exact n0
  exact k4 q hq
 have c2:(zA o p e).wholeE=0:=by
  rw [Pat.wholeE,c1,if_neg (by simp)]
  refine xc fun q hq=>?_
  rw [wq] at hq
  rcases List.mem_cons.1 hq with rfl | hq
  · exact if_neg (by omega)
  exact if_neg (by have:=k5 q hq;omega)
 rw [Pat.chk,c2,if_neg (by simp),if_pos]
 rw [wq,yg,List.foldl_cons]
 have e0:w6 (0,0,true) (zA o p e)=(0,0,true):=by
  simp only [w6,o8.2.1,o8.2.2];rfl
 rw [e0];exact k2
end Go.Am
end
