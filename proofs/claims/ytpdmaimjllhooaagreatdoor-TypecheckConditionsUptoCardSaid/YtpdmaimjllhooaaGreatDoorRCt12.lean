/- Contracts of the program's functions. -/
import Derived.Test.YtpdmaimjllhooaaGreatDoorProg
import Derived.Test.YtpdmaimjllhooaaGreatDoorRCt9
import Derived.Test.YtpdmaimjllhooaaGreatDoorCards
import Derived.Test.YtpdmaimjllhooaaGreatDoorRows
import Derived.Test.YtpdmaimjllhooaaGreatDoorTie
import Derived.Test.YtpdmaimjllhooaaGreatDoorRCt10
section
set_option maxHeartbeats 16000000
set_option maxRecDepth 100000
namespace Go.Am
open Go.Proofs
open Classical in
theorem folE_red (s:Plc) (e:Ex):uB s e=if 1≤e.op∧e.op≤4 then (if decide (e.var∈s.us)=false then 10 else if (e.op=1∨e.op=2)∧decide (e.var∈s.si)=false then 11 else if ¬ (e.op=1∨e.op=2)∧e.var=s.fb then 11 else 0) else 0:=by
 unfold uB
 by_cases h:1≤e.op∧e.op≤4
 · rw [if_pos h,if_pos h]
   by_cases h1:e.var∈s.us
   · rw [if_neg (show ¬ (e.var∉s.us) from fun hh=>hh h1),if_neg (show ¬ (decide (e.var∈s.us)=false) by simpa using h1)]
     by_cases h2:e.op=1∨e.op=2
     · have h2':¬ (e.op=3∨e.op=4):=by omega
       by_cases h3:e.var∈s.si
       · rw [if_neg (show ¬ (((e.op=1∨e.op=2)∧e.var∉s.si)∨((e.op=3∨e.op=4)∧e.var=s.fb)) from fun hh=>hh.elim (fun hh=>hh.2 h3) (fun hh=>h2' hh.1)),if_neg (show ¬ ((e.op=1∨e.op=2)∧decide (e.var∈s.si)=false) from fun hh=>by simp [h3] at hh),if_neg (show ¬ (¬ (e.op=1∨e.op=2)∧e.var=s.fb) from fun hh=>hh.1 h2)]
       rw [if_pos (show ((e.op=1∨e.op=2)∧e.var∉s.si)∨((e.op=3∨e.op=4)∧e.var=s.fb) from .inl ⟨h2,h3⟩),if_pos (show (e.op=1∨e.op=2)∧decide (e.var∈s.si)=false from ⟨h2,by simpa using h3⟩)]
     have h2':e.op=3∨e.op=4:=by omega
     rw [if_neg (show ¬ ((e.op=1∨e.op=2)∧decide (e.var∈s.si)=false) from fun hh=>h2 hh.1)]
     by_cases h4:e.var=s.fb
     · rw [if_pos (show ((e.op=1∨e.op=2)∧e.var∉s.si)∨((e.op=3∨e.op=4)∧e.var=s.fb) from .inr ⟨h2',h4⟩),if_pos (show ¬ (e.op=1∨e.op=2)∧e.var=s.fb from ⟨h2,h4⟩)]
     rw [if_neg (show ¬ (((e.op=1∨e.op=2)∧e.var∉s.si)∨((e.op=3∨e.op=4)∧e.var=s.fb)) from fun hh=>hh.elim (fun hh=>h2 hh.1) (fun hh=>h4 hh.2)),if_neg (show ¬ (¬ (e.op=1∨e.op=2)∧e.var=s.fb) from fun hh=>h4 hh.2)]
   rw [if_pos h1,if_pos (show decide (e.var∈s.us)=false by simpa using h1)]
 rw [if_neg h,if_neg h]
def th (o v fb:Int) (bu bs:Bool):Int :=
 if 1≤o∧o≤4 then (if bu=false then 10 else if (o=1∨o=2)∧bs=false then 11 else if ¬ (o=1∨o=2)∧v=fb then 11 else 0) else 0
theorem folV_a {o v fb:Int} {bs:Bool} (h:1≤o∧o≤4):th o v fb false bs=10:=by unfold th;rw [if_pos h,if_pos rfl]
theorem folV_b {o v fb:Int} (h:1≤o∧o≤4) (h2:o=1∨o=2):th o v fb true false=11:=by
 unfold th
 rw [if_pos h,if_neg (show ¬ (true=false) by decide),if_pos (show (o=1∨o=2)∧false=false from ⟨h2,rfl⟩)]
theorem folV_c {o v fb:Int} {bs:Bool} (h:1≤o∧o≤4) (h2:¬ (o=1∨o=2)) (h3:v=fb):th o v fb true bs=11:=by
 unfold th
 rw [if_pos h,if_neg (show ¬ (true=false) by decide),if_neg (show ¬ ((o=1∨o=2)∧bs=false) from fun h=>h2 h.1),if_pos ⟨h2,h3⟩]
theorem folV_d {o v fb:Int} {bu bs:Bool} (h1:¬ ((1≤o∧o≤4)∧bu=false)) (h2:¬ ((1≤o∧o≤4)∧(o=1∨o=2)∧bs=false)) (h3:¬ ((1≤o∧o≤4)∧¬ (o=1∨o=2)∧v=fb)):th o v fb bu bs=0:=by
 unfold th
 by_cases h:1≤o∧o≤4
 · rw [if_pos h,if_neg (fun g=>h1 ⟨h,g⟩),if_neg (fun g=>h2 ⟨h,g⟩),if_neg (fun g=>h3 ⟨h,g⟩)]
 rw [if_neg h]
theorem P_follows (s:Plc) (hu:s.us.length<1048577) (hsi:s.si.length<1048577):∀ e:Ex,e.Sm→PCall EE 101 [e.enc,s.enc] (int (e.fol s)):=by
 refine Ex.ind ?_
 intro o a v f k x ih hs
 have hlen:=hs.len
 have hih:∀ q∈a,PCall EE 101 [q.enc,s.enc] (int (q.fol s)):=fun q hq=>ih q hq (hs.arg hq)
 have hcl:=Ex.closedI a
 have hpc:=Ex.closed (.mk o a v f k x)
 have q1:=P_Contains s.us v hu
 have q2:=P_Contains s.si v hsi
 have hsc:=s.closed
 obtain ⟨R,hR⟩:∃ R,R=Ex.fol s (.mk o a v f k x):=⟨_,rfl⟩
 rw [← hR]
 unfold Ex.fol at hR hih
 have hfo:uB s (.mk o a v f k x)=th o v s.fb (decide (v∈s.us)) (decide (v∈s.si)):=by rw [folE_red];rfl
 rw [Ex.nodes,zm,hfo] at hR
 clear hfo
 simp only [Plc.enc] at hih hsc ⊢
 have hLU:=zx s.us
 have hLS:=zx s.si
 obtain ⟨xk,xn,xt⟩:=x
 rw [Ex.enc_mk] at hpc ⊢
 dsimp only at hpc ⊢
 generalize mapE int s.us=LU at *
 generalize mapE int s.si=LS at *
 generalize decide (v∈s.us)=bu at *
 generalize decide (v∈s.si)=bs at *
 generalize s.fb=fb at *
 clear ih hs hu hsi
 refine zr ?_;unhygienic intros
 generalize hes:mapE Ex.enc a=es at *
 have hel:es.length=a.length:=by rw [← hes,zq]
 have n0:bNot false=true:=by simp only [ee];rfl
 have n1:bNot true=false:=by simp only [ee];rfl
 have oT:∀ b,bOr true b=true:=fun b=>by simp only [ee];rfl
 have oF:∀ b,bOr false b=b:=fun b=>by simp only [ee];rfl
 have aT:∀ b,bAnd true b=b:=fun b=>by simp only [ee];rfl
 have aF:∀ b,bAnd false b=false:=fun b=>by simp only [ee];rfl
 refine fB T101 [.t 4] ?_
 by_cases e1:(1≤o∧o≤4)∧bu=false
 · obtain ⟨h14,rfl⟩:=e1
   have kin:bAnd (iLe 1 o) (iLe o 4)=true:=by simp only [ee];simpa using h14
   rw [folV_a h14,if_pos (by decide)] at hR
   by_cases h12:o=1∨o=2
   · have k3:bOr (iEq o 1) (iEq o 2)=true:=by simp only [ee];simpa using h12
     have fz:=And.intro kin (And.intro k3 (And.intro n0 (And.intro n1 (And.intro oT (And.intro oF (And.intro aT aF))))))
     refine Cq ?_
     refine Aq ?_
     refine oPA q1 ?_
     refine Cq ?_
     refine Aq ?_
     exact fI (h:=hR.symm)
   have k3:bOr (iEq o 1) (iEq o 2)=false:=by simp only [ee];simpa using h12
   have fz:=And.intro kin (And.intro k3 (And.intro n0 (And.intro n1 (And.intro oT (And.intro oF (And.intro aT aF))))))
   refine Cq ?_
   refine Aq ?_
   refine oPA q1 ?_
   refine Cq ?_
   refine Aq ?_
   exact fI (h:=hR.symm)
 by_cases e2:(1≤o∧o≤4)∧(o=1∨o=2)∧bs=false
 · obtain ⟨h14,h12,rfl⟩:=e2
   obtain rfl:bu=true:=by cases bu;exact absurd ⟨h14,rfl⟩ e1;rfl
   have kin:bAnd (iLe 1 o) (iLe o 4)=true:=by simp only [ee];simpa using h14
   have k3:bOr (iEq o 1) (iEq o 2)=true:=by simp only [ee];simpa using h12
   rw [folV_b h14 h12,if_pos (by decide)] at hR
   have fz:=And.intro kin (And.intro k3 (And.intro n0 n1))
   refine Cq ?_
   refine Aq ?_
   refine oPA q1 ?_
   have fz:=And.intro kin (And.intro k3 (And.intro n0 (And.intro n1 (And.intro oT (And.intro oF (And.intro aT aF))))))
   refine Cq ?_
   refine Aq ?_
   refine oPG q2 ?_
   refine Cq ?_
   refine Aq ?_
   exact fI (h:=hR.symm)
 by_cases e3:(1≤o∧o≤4)∧¬ (o=1∨o=2)∧v=fb
 · obtain ⟨h14,h12,hvf⟩:=e3
   obtain rfl:bu=true:=by cases bu;exact absurd ⟨h14,rfl⟩ e1;rfl
   have kin:bAnd (iLe 1 o) (iLe o 4)=true:=by simp only [ee];simpa using h14
   have k3:bOr (iEq o 1) (iEq o 2)=false:=by simp only [ee];simpa using h12
   have kf:iEq v fb=true:=by simp only [ee];simpa using hvf
   rw [folV_c h14 h12 hvf,if_pos (by decide)] at hR
   have fz:=And.intro kin (And.intro k3 (And.intro kf (And.intro n0 (And.intro n1 (And.intro oT (And.intro oF (And.intro aT aF)))))))
   refine Cq ?_
   refine Aq ?_
   refine oPA q1 ?_
   refine Cq ?_
   refine Aq ?_
   refine zi rfl rfl ?_
   refine Cq ?_
   refine Cr ?_
   refine Aq ?_
   exact fI (h:=hR.symm)
 replace hR:R=zm (uB s) (Ex.nodesL a):=by
  rw [folV_d e1 e2 e3,if_neg (by decide)] at hR
  exact hR
 have hco:¬ (1≤o∧o≤4)∨((1≤o∧o≤4)∧(o=1∨o=2)∧bu=true∧bs=true)∨((1≤o∧o≤4)∧¬ (o=1∨o=2)∧bu=true∧v≠fb):=by
  by_cases h14:1≤o∧o≤4
  · have hbu:bu=true:=by cases bu;exact absurd ⟨h14,rfl⟩ e1;rfl
    by_cases h12:o=1∨o=2
    · exact .inr (.inl ⟨h14,h12,hbu,by cases bs;exact absurd ⟨h14,h12,rfl⟩ e2;rfl⟩)
    exact .inr (.inr ⟨h14,h12,hbu,fun h=>e3 ⟨h14,h12,h⟩⟩)
  exact .inl h14
 clear e1 e2 e3
 rcases hco with h14 | ⟨h14,h12,hbu,hbs⟩ | ⟨h14,h12,hbu,hvf⟩
 case' inl =>
  have kin:bAnd (iLe 1 o) (iLe o 4)=false:=by simp only [ee];simpa using h14
  have k3:=n0
  have kf:=n1
  have fz:=And.intro kin (And.intro k3 (And.intro kf (And.intro n0 (And.intro n1 (And.intro oT (And.intro oF (And.intro aT aF)))))))
  refine Cq ?_
  refine Aq ?_
  refine xM (F':=[(54,int 0),(53,int (lenA es)),(52,.isl 8 es),(2,.ptr 0 0),(3,.ptr 1 0)]) (H':=[.cells [int o,.isl 8 es,int v,int f,int k,int xk,int xn,str xt],.cells [.isl 1 LU,.isl 1 LS,int fb]]) ?_ ?_
  · exact (eS [.to 0,.to 1] [some 0,some 1])
  clear kin k3 kf h14
 case' inr.inl =>
  subst hbu hbs
  have kin:bAnd (iLe 1 o) (iLe o 4)=true:=by simp only [ee];simpa using h14
  have k3:bOr (iEq o 1) (iEq o 2)=true:=by simp only [ee];simpa using h12
  have kf:=n1
  have fz:=And.intro kin (And.intro k3 (And.intro kf (And.intro n0 n1)))
  refine Cq ?_
  refine Aq ?_
  refine oPA q1 ?_
  have fz:=And.intro kin (And.intro k3 (And.intro kf (And.intro n0 (And.intro n1 (And.intro oT (And.intro oF (And.intro aT aF)))))))
  refine Cq ?_
  refine Aq ?_
  refine oPG q2 ?_
  refine Cq ?_
  refine Cr ?_
  refine Aq ?_
  refine xM (F':=[(54,int 0),(53,int (lenA es)),(52,.isl 8 es),(2,.ptr 0 0),(3,.ptr 1 0)]) (H':=[.cells [int o,.isl 8 es,int v,int f,int k,int xk,int xn,str xt],.cells [.isl 1 LU,.isl 1 LS,int fb]]) ?_ ?_
  · exact (eS [.to 0,.to 1] [some 0,some 1])
  clear kin k3 kf h14 h12
 case' inr.inr =>
  subst hbu
  have kin:bAnd (iLe 1 o) (iLe o 4)=true:=by simp only [ee];simpa using h14
  have k3:bOr (iEq o 1) (iEq o 2)=false:=by simp only [ee];simpa using h12
  have kf:iEq v fb=false:=by simp only [ee];simpa using hvf
  have fz:=And.intro kin (And.intro k3 (And.intro kf (And.intro n0 (And.intro n1 (And.intro oT (And.intro oF (And.intro aT aF)))))))
  refine Cq ?_
  refine Aq ?_
  refine oPA q1 ?_
  refine Cq ?_
  refine Aq ?_
  refine zi rfl rfl ?_
  refine Cq ?_
  refine Cr ?_
  refine Aq ?_
  refine xM (F':=[(54,int 0),(53,int (lenA es)),(52,.isl 8 es),(2,.ptr 0 0),(3,.ptr 1 0)]) (H':=[.cells [int o,.isl 8 es,int v,int f,int k,int xk,int xn,str xt],.cells [.isl 1 LU,.isl 1 LS,int fb]]) ?_ ?_
  · exact (eS [.to 0,.to 1] [some 0,some 1])
  clear kin k3 kf h14 h12 hvf
 all_goals
  clear q1 q2
  refine zf (ι:=List Ex × List Ex × Int) (fun p=>([(54,int p.2.2),(53,int (lenA es)),(52,.isl 8 es),(2,.ptr 0 0),(3,.ptr 1 0)],[.cells [int o,.isl 8 es,int v,int f,int k,int xk,int xn,str xt],.cells [.isl 1 LU,.isl 1 LS,int fb]])) (fun p=>a=p.1++p.2.1∧p.2.2=p.1.length∧R=zm (uB s) (Ex.nodesL p.2.1)) (fun p=>p.2.1.length) ([],a,0) ⟨rfl,rfl,hR⟩ ?_ ?_
  · exact (eS [.to 0,.to 1] [some 0,some 1])
  rintro ⟨d,r,i⟩ ⟨g1,gi,gR⟩
  dsimp only at g1 gi gR ⊢
  cases r with
  | nil =>
   have L1:=zu g1
   try simp only [List.length] at L1
   have hc:iLt i (lenA es)=false:=yW e_iLt e_lenA (by omega)
   have gR:R=0:=gR
   have fz:=hc
   refine Cq ?_
   refine Aq ?_
   refine zo ?_
   refine Aq ?_
   exact fI (h:=gR.symm)
  | cons q r =>
   have L1:=zu g1
   try simp only [List.length] at L1
   have hc:iLt i (lenA es)=true:=yY e_iLt e_lenA (by omega)
   have hat:=zP e_atA hes g1 gi
   have hq:=hih q (by rw [g1];simp)
   have hqc:=Ex.closed q
   rw [Ex.nodesL,z8] at gR
   have hi2:iAdd .i64 i 1=((d++[q]).length:Int):=by rw [List.length_append];exact zJ e_iAdd gi (by omega)
   generalize zm (uB s) q.nodes=fq at *
   obtain ⟨qO,qA,qV,qF,qK,qXk,qXn,qXt,hx⟩:=Ex.form q
   rw [hx] at hat hqc hq
   by_cases h2:fq=0
   · have w2:iNe fq 0=false:=by simp only [ee];simpa using h2
     rw [if_neg (by simpa using h2)] at gR
     have fz:=And.intro hc (And.intro hat w2)
     refine Cq ?_
     refine Cr ?_
     refine oPA hq ?_
     refine Cq ?_
     refine Aq ?_
     refine zw (d++[q],r,iAdd .i64 i 1) ⟨by simp [g1],hi2,gR⟩ (by simp) (eS [.to 0,.to 1,.gone] [some 0,some 1])
   have w2:iNe fq 0=true:=by simp only [ee];simpa using h2
   rw [if_pos h2] at gR
   have fz:=And.intro hc (And.intro hat w2)
   refine Cq ?_
   refine Cr ?_
   refine oPA hq ?_
   refine Cq ?_
   refine Aq ?_
   refine zl ?_
   refine Aq ?_
   exact fI (h:=gR.symm)
theorem P_ref15_Follows (s:Plc) (hu:s.us.length<1048577) (hsi:s.si.length<1048577):∀ e:Ex,e.Sm→PCall EE 108 [e.enc,s.enc] (int (e.fol s)):=by
 refine Ex.ind ?_
 intro o a v f k x ih hs
 have hlen:=hs.len
 have hih:∀ q∈a,PCall EE 108 [q.enc,s.enc] (int (q.fol s)):=fun q hq=>ih q hq (hs.arg hq)
 have hcl:=Ex.closedI a
 have hpc:=Ex.closed (.mk o a v f k x)
 have q1:=P_Has s.us v hu
 have q2:=P_Has s.si v hsi
 have hsc:=s.closed
 obtain ⟨R,hR⟩:∃ R,R=Ex.fol s (.mk o a v f k x):=⟨_,rfl⟩
 rw [← hR]
 unfold Ex.fol at hR hih
 have hfo:uB s (.mk o a v f k x)=th o v s.fb (decide (v∈s.us)) (decide (v∈s.si)):=by rw [folE_red];rfl
 rw [Ex.nodes,zm,hfo] at hR
 clear hfo
 simp only [Plc.enc] at hih hsc ⊢
 have hLU:=zx s.us
 have hLS:=zx s.si
 obtain ⟨xk,xn,xt⟩:=x
 rw [Ex.enc_mk] at hpc ⊢
 dsimp only at hpc ⊢
 generalize mapE int s.us=LU at *
 generalize mapE int s.si=LS at *
 generalize decide (v∈s.us)=bu at *
 generalize decide (v∈s.si)=bs at *
 generalize s.fb=fb at *
 clear ih hs hu hsi
 refine zr ?_;unhygienic intros
 generalize hes:mapE Ex.enc a=es at *
 have hel:es.length=a.length:=by rw [← hes,zq]
 have n0:bNot false=true:=by simp only [ee];rfl
 have n1:bNot true=false:=by simp only [ee];rfl
 have oT:∀ b,bOr true b=true:=fun b=>by simp only [ee];rfl
 have oF:∀ b,bOr false b=b:=fun b=>by simp only [ee];rfl
 have aT:∀ b,bAnd true b=b:=fun b=>by simp only [ee];rfl
 have aF:∀ b,bAnd false b=false:=fun b=>by simp only [ee];rfl
 refine fB T108 [.t 4] ?_
 by_cases e1:(1≤o∧o≤4)∧bu=false
 · obtain ⟨h14,rfl⟩:=e1
   rw [folV_a h14,if_pos (by decide)] at hR
   by_cases h12:o=1∨o=2
   · have k3:bOr (iEq o 1) (iEq o 2)=true:=by simp only [ee];simpa using h12
     have k4:bOr (iEq o 3) (iEq o 4)=false:=by simp only [ee];simp;omega
     have fz:=And.intro k3 (And.intro k4 (And.intro n0 (And.intro n1 (And.intro oT (And.intro oF (And.intro aT aF))))))
     refine Cq ?_
     refine Aq ?_
     refine oPG q1 ?_
     refine Cq ?_
     refine Aq ?_
     exact fI (h:=hR.symm)
   have k3:bOr (iEq o 1) (iEq o 2)=false:=by simp only [ee];simpa using h12
   have k4:bOr (iEq o 3) (iEq o 4)=true:=by simp only [ee];simp;omega
   have fz:=And.intro k3 (And.intro k4 (And.intro n0 (And.intro n1 (And.intro oT (And.intro oF (And.intro aT aF))))))
   refine Cq ?_
   refine Aq ?_
   refine oPG q1 ?_
   refine Cq ?_
   refine Aq ?_
   exact fI (h:=hR.symm)
 by_cases e2:(1≤o∧o≤4)∧(o=1∨o=2)∧bs=false
 · obtain ⟨h14,h12,rfl⟩:=e2
   obtain rfl:bu=true:=by cases bu;exact absurd ⟨h14,rfl⟩ e1;rfl
   have k3:bOr (iEq o 1) (iEq o 2)=true:=by simp only [ee];simpa using h12
   have k4:bOr (iEq o 3) (iEq o 4)=false:=by simp only [ee];simp;omega
   rw [folV_b h14 h12,if_pos (by decide)] at hR
   have fz:=And.intro k3 (And.intro k4 (And.intro n0 (And.intro n1 (And.intro oT (And.intro oF (And.intro aT aF))))))
   refine Cq ?_
   refine Aq ?_
   refine oPG q1 ?_
   refine Cq ?_
   refine Aq ?_
   refine oPG q2 ?_
   refine Cq ?_
   refine Aq ?_
   refine zi rfl rfl ?_
   refine Aq ?_
   exact fI (h:=hR.symm)
 by_cases e3:(1≤o∧o≤4)∧¬ (o=1∨o=2)∧v=fb
 · obtain ⟨h14,h12,hvf⟩:=e3
   obtain rfl:bu=true:=by cases bu;exact absurd ⟨h14,rfl⟩ e1;rfl
   have k3:bOr (iEq o 1) (iEq o 2)=false:=by simp only [ee];simpa using h12
   have k4:bOr (iEq o 3) (iEq o 4)=true:=by simp only [ee];simp;omega
   have kf:iEq v fb=true:=by simp only [ee];simpa using hvf
   rw [folV_c h14 h12 hvf,if_pos (by decide)] at hR
   have fz:=And.intro k3 (And.intro k4 (And.intro kf (And.intro n0 (And.intro n1 (And.intro oT (And.intro oF (And.intro aT aF)))))))
   refine Cq ?_
   refine Aq ?_
   refine oPG q1 ?_
   refine Cq ?_
   refine Aq ?_
   refine zi rfl rfl ?_
   refine Cq ?_
   refine Cr ?_
   refine Cr ?_
   refine Cr ?_
   refine Cr ?_
   refine Cr ?_
   refine Cr ?_
   refine Cr ?_
   refine Aq ?_
   exact fI (h:=hR.symm)
 replace hR:R=zm (uB s) (Ex.nodesL a):=by
  rw [folV_d e1 e2 e3,if_neg (by decide)] at hR
  exact hR
 have hco:¬ (1≤o∧o≤4)∨((1≤o∧o≤4)∧(o=1∨o=2)∧bu=true∧bs=true)∨((1≤o∧o≤4)∧¬ (o=1∨o=2)∧bu=true∧v≠fb):=by
  by_cases h14:1≤o∧o≤4
  · have hbu:bu=true:=by cases bu;exact absurd ⟨h14,rfl⟩ e1;rfl
    by_cases h12:o=1∨o=2
    · exact .inr (.inl ⟨h14,h12,hbu,by cases bs;exact absurd ⟨h14,h12,rfl⟩ e2;rfl⟩)
    exact .inr (.inr ⟨h14,h12,hbu,fun h=>e3 ⟨h14,h12,h⟩⟩)
  exact .inl h14
 clear e1 e2 e3
 rcases hco with h14 | ⟨h14,h12,hbu,hbs⟩ | ⟨h14,h12,hbu,hvf⟩
 case' inl =>
  have k3:bOr (iEq o 1) (iEq o 2)=false:=by simp only [ee];simp;omega
  have k4:bOr (iEq o 3) (iEq o 4)=false:=by simp only [ee];simp;omega
  have kf:=n1
  have fz:=And.intro k3 (And.intro k4 (And.intro kf (And.intro n0 (And.intro n1 (And.intro oT (And.intro oF (And.intro aT aF)))))))
  refine Cq ?_
  refine Aq ?_
  refine zi rfl rfl ?_
  refine Aq ?_
  refine zi rfl rfl ?_
  refine Cq ?_
  refine Cr ?_
  refine Cr ?_
  refine Cr ?_
  refine Cr ?_
  refine Cr ?_
  refine Cr ?_
  refine Cr ?_
  refine Aq ?_
  refine xM (F':=[(7,int 0),(2,.ptr 0 0),(3,.ptr 1 0)]) (H':=[.cells [int o,.isl 8 es,int v,int f,int k,int xk,int xn,str xt],.cells [.isl 1 LU,.isl 1 LS,int fb]]) ?_ ?_
  · exact (eS [.to 0,.to 1] [some 0,some 1])
  clear k3 k4 kf h14
 case' inr.inl =>
  subst hbu hbs
  have k3:bOr (iEq o 1) (iEq o 2)=true:=by simp only [ee];simpa using h12
  have k4:bOr (iEq o 3) (iEq o 4)=false:=by simp only [ee];simp;omega
  have kf:=n1
  have fz:=And.intro k3 (And.intro k4 (And.intro kf (And.intro n0 (And.intro n1 (And.intro oT (And.intro oF (And.intro aT aF)))))))
  refine Cq ?_
  refine Aq ?_
  refine oPG q1 ?_
  refine Cq ?_
  refine Aq ?_
  refine oPG q2 ?_
  refine Cq ?_
  refine Cr ?_
  refine Cr ?_
  refine Cr ?_
  refine Cr ?_
  refine Cr ?_
  refine Cr ?_
  refine Cr ?_
  refine Aq ?_
  refine xM (F':=[(7,int 0),(2,.ptr 0 0),(3,.ptr 1 0)]) (H':=[.cells [int o,.isl 8 es,int v,int f,int k,int xk,int xn,str xt],.cells [.isl 1 LU,.isl 1 LS,int fb]]) ?_ ?_
  · exact (eS [.to 0,.to 1] [some 0,some 1])
  clear k3 k4 kf h14 h12
 case' inr.inr =>
  subst hbu
  have k3:bOr (iEq o 1) (iEq o 2)=false:=by simp only [ee];simpa using h12
  have k4:bOr (iEq o 3) (iEq o 4)=true:=by simp only [ee];simp;omega
  have kf:iEq v fb=false:=by simp only [ee];simpa using hvf
  have fz:=And.intro k3 (And.intro k4 (And.intro kf (And.intro n0 (And.intro n1 (And.intro oT (And.intro oF (And.intro aT aF)))))))
  refine Cq ?_
  refine Aq ?_
  refine oPG q1 ?_
  refine Cq ?_
  refine Aq ?_
  refine zi rfl rfl ?_
  refine Cq ?_
  refine Cr ?_
  refine Cr ?_
  refine Cr ?_
  refine Cr ?_
  refine Cr ?_
  refine Cr ?_
  refine Cr ?_
  refine Aq ?_
  refine xM (F':=[(7,int 0),(2,.ptr 0 0),(3,.ptr 1 0)]) (H':=[.cells [int o,.isl 8 es,int v,int f,int k,int xk,int xn,str xt],.cells [.isl 1 LU,.isl 1 LS,int fb]]) ?_ ?_
  · exact (eS [.to 0,.to 1] [some 0,some 1])
  clear k3 k4 kf h14 h12 hvf
 all_goals
  clear q1 q2
  refine zf (ι:=List Ex × List Ex × Int) (fun p=>([(7,int p.2.2),(2,.ptr 0 0),(3,.ptr 1 0)],[.cells [int o,.isl 8 es,int v,int f,int k,int xk,int xn,str xt],.cells [.isl 1 LU,.isl 1 LS,int fb]])) (fun p=>a=p.1++p.2.1∧p.2.2=p.1.length∧R=zm (uB s) (Ex.nodesL p.2.1)) (fun p=>p.2.1.length) ([],a,0) ⟨rfl,rfl,hR⟩ ?_ ?_
  · exact (eS [.to 0,.to 1] [some 0,some 1])
  rintro ⟨d,r,i⟩ ⟨g1,gi,gR⟩
  dsimp only at g1 gi gR ⊢
  cases r with
  | nil =>
   have L1:=zu g1
   try simp only [List.length] at L1
   have hc:iLt i (lenA es)=false:=yW e_iLt e_lenA (by omega)
   have gR:R=0:=gR
   have fz:=hc
   refine Cq ?_
   refine Aq ?_
   refine zo ?_
   refine Aq ?_
   exact fI (h:=gR.symm)
  | cons q r =>
   have L1:=zu g1
   try simp only [List.length] at L1
   have hc:iLt i (lenA es)=true:=yY e_iLt e_lenA (by omega)
   have hat:=zP e_atA hes g1 gi
   have hq:=hih q (by rw [g1];simp)
   have hqc:=Ex.closed q
   rw [Ex.nodesL,z8] at gR
   have hi2:iAdd .i64 i 1=((d++[q]).length:Int):=by rw [List.length_append];exact zJ e_iAdd gi (by omega)
   generalize zm (uB s) q.nodes=fq at *
   obtain ⟨qO,qA,qV,qF,qK,qXk,qXn,qXt,hx⟩:=Ex.form q
   rw [hx] at hat hqc hq
   by_cases h2:fq=0
   · have w2:iNe fq 0=false:=by simp only [ee];simpa using h2
     rw [if_neg (by simpa using h2)] at gR
     have fz:=And.intro hc (And.intro hat w2)
     refine Cq ?_
     refine Cr ?_
     refine zb rfl (by conv=>lhs;cbv) rfl ?_
     refine tgC ?_
     refine oPT hq ?_
     refine tgA ?_
     refine zW ⟨rfl,by simp [za,zZ],?_⟩
     refine Cq ?_
     refine Aq ?_
     refine zw (d++[q],r,iAdd .i64 i 1) ⟨by simp [g1],hi2,gR⟩ (by simp) (eS [.to 0,.to 1] [some 0,some 1])
   have w2:iNe fq 0=true:=by simp only [ee];simpa using h2
   rw [if_pos h2] at gR
   have fz:=And.intro hc (And.intro hat w2)
   refine Cq ?_
   refine Cr ?_
   refine zb rfl (by conv=>lhs;cbv) rfl ?_
   refine tgC ?_
   refine oPT hq ?_
   refine tgA ?_
   refine zW ⟨rfl,by simp [za,zZ],?_⟩
   refine Cq ?_
   refine Aq ?_
   refine zl ?_
   refine Aq ?_
   exact fI (h:=gR.symm)
mutual
def Pat.tot (lim:Nat):Pat→Nat
 | .mk _ a _ _ _ _ _=>Pat.totL lim 1 a
def Pat.totL (lim:Nat):Nat→List Pat→Nat
 | n,[]=>n
 | n,e :: r=>if n≤lim then Pat.totL lim (n+e.tot lim) r else n
end
theorem Pat.totL_le {lim:Nat} {l:List Pat} (h:∀ e∈l,e.tot lim≤e.cnt):∀ n,Pat.totL lim n l≤n+Pat.cntL l:=by
 induction l with
 | nil=>intro n;simp [Pat.totL]
 | cons e r ih =>
  intro n
  have h1:=h e (by simp)
  have h2:=ih (fun e he=>h e (by simp [he])) (n+e.tot lim)
  simp only [Pat.totL,Pat.cntL];split<;>omega
theorem Pat.tot_le (lim:Nat):∀ e:Pat,e.tot lim≤e.cnt:=Pat.ind fun o a t v s n c h=>by
 have:=Pat.totL_le h 1
 simp only [Pat.tot,Pat.cnt];omega
theorem Pat.totL_eq {lim:Nat} {l:List Pat} (h:∀ e∈l,e.cnt≤lim→e.tot lim=e.cnt):∀ n,n+Pat.cntL l≤lim→Pat.totL lim n l=n+Pat.cntL l:=by
 induction l with
 | nil=>intro n _;simp [Pat.totL,Pat.cntL]
 | cons e r ih =>
  intro n hn
  simp only [Pat.cntL] at hn ⊢
  have h1:=h e (by simp) (by omega)
  rw [Pat.totL,if_pos (by omega),ih (fun e he=>h e (by simp [he])) _ (by omega)];omega
theorem Pat.tot_eq {lim:Nat}:∀ e:Pat,e.cnt≤lim→e.tot lim=e.cnt:=Pat.ind fun o a t v s n c h hl=>by
 simp only [Pat.tot,Pat.cnt] at hl ⊢
 exact Pat.totL_eq h 1 hl
theorem Pat.totL_gt {lim:Nat} {l:List Pat} (h:∀ e∈l,lim<e.cnt→lim<e.tot lim):∀ n,lim<n+Pat.cntL l→lim<Pat.totL lim n l:=by
 induction l with
 | nil=>intro n hn;simpa [Pat.totL,Pat.cntL] using hn
 | cons e r ih =>
  intro n hn
  simp only [Pat.cntL] at hn
  rw [Pat.totL]
  split
  · refine ih (fun e he=>h e (by simp [he])) _ ?_
    by_cases hc:e.cnt≤lim
    · rw [Pat.tot_eq e hc];omega
    have:=h e (by simp) (by omega);omega
  omega
theorem Pat.tot_gt {lim:Nat}:∀ e:Pat,lim<e.cnt→lim<e.tot lim:=Pat.ind fun o a t v s n c h hl=>by
 simp only [Pat.tot,Pat.cnt] at hl ⊢
 exact Pat.totL_gt h 1 hl
theorem Pat.tot_iff (e:Pat) (lim:Nat):e.tot lim≤lim↔e.cnt≤lim:=by
 by_cases h:e.cnt≤lim
 · rw [Pat.tot_eq e h]
 have:=Pat.tot_gt (lim:=lim) e (by omega);omega
theorem P_ref09_Total (lim:Nat) (hlim:lim≤1099511627776):∀ p:Pat,p.Sm→PCall EE 86 [p.enc,int lim] (int (p.tot lim)):=by
 generalize hli:(lim:Int)=li
 refine Pat.ind ?_
 intro o a t v s n c ih hs
 obtain ⟨co,ca,cv,cf,ck,xk,xn,xt⟩:=c
 have hlen:=hs.len
 have hih:∀ q∈a,PCall EE 86 [q.enc,int li] (int (q.tot lim)):=fun q hq=>ih q hq (hs.arg hq)
 have hcl:=Pat.closedI a
 have hce:=Ex.closedI ca
 have hcnt:Pat.cntL a≤1048576:=by have hs:=hs.1;simp only [Pat.cnt] at hs;omega
 have hde:=fun q:Pat=>Pat.tot_le lim q
 simp only [Pat.tot]
 obtain ⟨R,hR⟩:∃ R,R=Pat.totL lim 1 a:=⟨_,rfl⟩
 rw [← hR,Pat.enc_mk]
 refine zr ?_;unhygienic intros
 generalize hes:mapE Pat.enc a=es at *
 generalize mapE Ex.enc ca=ec at *
 have hel:es.length=a.length:=by rw [← hes,zq]
 refine fB T86 [.t 4] ?_
 refine Aq ?_
 refine zf (ι:=List Pat × List Pat × Int × Int) (fun p=>([(5,int p.2.2.2),(6,int p.2.2.1),(1,int li),(2,.ptr 0 0)],[.cells [int o,.isl 14 es,int t,int v,int s,int n,int co,.isl 8 ec,int cv,int cf,int ck,int xk,int xn,str xt]])) (fun p=>a=p.1++p.2.1∧p.2.2.1=p.1.length∧p.2.2.2≤1+Pat.cntL p.1∧0≤p.2.2.2∧R=Pat.totL lim p.2.2.2.toNat p.2.1) (fun p=>p.2.1.length) ([],a,0,1) ⟨rfl,rfl,by simp [Pat.cntL],by simp,hR⟩ ?_ ?_
 · exact (eS [.to 0] [some 0])
 rintro ⟨d,r,i,nn⟩ ⟨g1,gi,gn,gp,gt⟩
 dsimp only at g1 gi gn gp gt ⊢
 have hnt:(nn.toNat:Int)=nn:=Int.toNat_of_nonneg gp
 cases r with
 | nil =>
  have L1:=zu g1
  try simp only [List.length] at L1
  have hc:iLt i (lenA es)=false:=yW e_iLt e_lenA (by omega)
  rw [Pat.totL] at gt
  have hv:nn=(R:Int):=by omega
  have hb:∀ b,bAnd false b=false:=by simp [ee]
  have fz:=And.intro hc hb
  refine Cq ?_
  refine Aq ?_
  refine zo ?_
  refine Aq ?_
  exact fI (h:=hv)
 | cons q r =>
  have L1:=zu g1
  try simp only [List.length] at L1
  have hc:iLt i (lenA es)=true:=yY e_iLt e_lenA (by omega)
  have hat:=zP e_atA hes g1 gi
  have hq:=hih q (by rw [g1];simp)
  have hqc:=Pat.closed q
  have hqd:=hde q
  rw [g1,Pat.cntL_append,Pat.cntL] at hcnt
  obtain ⟨qO,qA,qT,qV,qS,qN,qCo,qCa,qCv,qCf,qCk,qXk,qXn,qXt,hx⟩:=Pat.form q
  rw [hx] at hq hat hqc
  have hb:∀ b,bAnd true b=b:=by simp [ee]
  rw [Pat.totL] at gt
  by_cases hle:nn≤li
  · have h2:iLe nn li=true:=by simp [ee];omega
    rw [if_pos (by omega)] at gt
    generalize hqn:(q.tot lim:Int)=qn at hq
    have hn2:iAdd .i64 nn qn=nn+qn:=ww e_iAdd (by omega) (by omega)
    have hi2:iAdd .i64 i 1=((d++[q]).length:Int):=by rw [List.length_append];exact zJ e_iAdd gi (by omega)
    have hn4:iAdd .i64 nn qn≤1+Pat.cntL (d++[q])∧0≤iAdd .i64 nn qn:=by rw [Pat.cntL_append,Pat.cntL,Pat.cntL,hn2];omega
    have hn3:(iAdd .i64 nn qn).toNat=nn.toNat+q.tot lim:=by omega
    have fz:=And.intro hc (And.intro hat (And.intro hb h2))
    refine Cq ?_
    refine Cr ?_
    refine oPA hq ?_
    refine Aq ?_
    refine zw (d++[q],r,iAdd .i64 i 1,iAdd .i64 nn qn) ⟨by simp [g1],hi2,hn4.1,hn4.2,hn3 ▸ gt⟩ (by simp) (eS [.to 0] [some 0])
  have h2:iLe nn li=false:=by simp [ee];omega
  rw [if_neg (by omega)] at gt
  have hv:nn=(R:Int):=by omega
  have fz:=And.intro hc (And.intro hat (And.intro hb h2))
  refine Cq ?_
  refine Aq ?_
  refine zo ?_
  refine Aq ?_
  exact fI (h:=hv)
structure xW (ts:List Sch):Prop where
 len:ts.length<1048577
 sh:∀ q∈ts,q.Short
 fs:∀ q∈ts,q.fs.length<1048577
def tyB (ts:List Sch) (v:Vr):Bool:=decide (0≤v.ty∧v.ty<(ts.length:Int))
def x6 (ts:List Sch) (vs:List Vr):Int:=if 16<vs.length then 5 else if vs.all (tyB ts) then 0 else 6
noncomputable def xR (ts:List Sch) (vs:List Vr) (e:Ex):Int × Int:=if z7 ts≠0 then (0,z7 ts) else if x6 ts vs≠0 then (0,x6 ts vs) else if e.chk≠0 then (0,e.chk) else e.kindK ts vs
noncomputable def wQ (ts:List Sch) (vs:List Vr) (e:Ex):Int:=if (xR ts vs e).2≠0 then (xR ts vs e).2 else if (xR ts vs e).1≠1 then 9 else 0
theorem Ex.nodeE_nn {q:Ex} (h:q.nodeE=0):0≤q.var∧0≤q.fld∧(q.op=4→1≤q.kind):=by
 unfold Ex.nodeE at h
 split at h
 · cases h
 split at h
 · cases h
 split at h
 · cases h
 rename_i h3
 split at h
 · cases h
 rename_i h4
 split at h
 · rename_i h5;exact absurd h h5.2
 split at h
 · rename_i h6
   obtain ⟨f1,f2,f3,f4⟩:=h6
   refine ⟨?_,?_,fun e=>Int.not_lt.1 fun hh=>h4 ⟨e,.inl hh⟩⟩
   · rcases f1 with f1 | f1
     · exact Int.not_lt.1 fun hh=>h3 (.inl ⟨f1,.inl hh⟩)
     omega
   rcases f2 with f2 | f2
   · exact Int.not_lt.1 fun hh=>h3 (.inr ⟨f2,.inl hh⟩)
   omega
 cases h
theorem Ex.chk_nn {e:Ex} (h:e.chk=0):∀ q∈e.nodes,0≤q.var∧0≤q.fld∧(q.op=4→1≤q.kind):=fun q hq=>Ex.nodeE_nn (Ex.chk_nodes h q hq)
theorem varsR_in {ts:List Sch} {vs:List Vr} (h:x6 ts vs=0):vs.length≤16∧∀ v∈vs,0≤v.ty∧v.ty<(ts.length:Int):=by
 unfold x6 at h
 split at h
 · cases h
 split at h
 · rename_i h1 h2
   rw [List.all_eq_true] at h2
   exact ⟨by omega,fun v hv=>by have:=h2 v hv;simpa [tyB] using this⟩
 cases h
theorem varsR_bad {ts:List Sch} {vs d r:List Vr} {v:Vr} (hl:¬ 16<vs.length) (h:vs=d++v :: r) (hv:tyB ts v=false):x6 ts vs=6:=by
 rw [x6,if_neg hl,if_neg]
 intro h2
 rw [List.all_eq_true] at h2
 rw [h2 v (by rw [h];simp)] at hv
 cases hv
theorem varsR_good {ts:List Sch} {vs:List Vr} (hl:¬ 16<vs.length) (h:vs.all (tyB ts)=true):x6 ts vs=0:=by rw [x6,if_neg hl,if_pos h]
theorem P_Kind (ts:List Sch) (vs:List Vr) (e:Ex) (hts:xW ts) (hvs:vs.length<1048577) (he:e.Sm):PCall EE 46 [.isl 2 (mapE Sch.enc ts),.isl 2 (mapE Vr.enc vs),e.enc] (.tup [int (xR ts vs e).1,int (xR ts vs e).2]):=by
 have p1:=P_CheckAll ts (by have:=hts.len;omega) hts.sh
 have p2:=P_expr_Check e he
 have p3:x6 ts vs=0→e.chk=0→_:=fun h h2=>P_kind ts vs (fun q a b=>P_leaf ts vs q hts.len hvs hts.fs (varsR_in h).2 a b) (fun op l hl=>P_operands op l hl) e he fun q hq=>⟨(Ex.chk_nn h2 q hq).1,(Ex.chk_nn h2 q hq).2.1⟩
 have kts:=Sch.closedI ts
 have kvs:=Vr.closedI vs
 have kec:=Ex.closed e
 have htl:=hts.len
 obtain ⟨⟨R1,R2⟩,hR⟩:∃ R,R=xR ts vs e:=⟨_,rfl⟩
 rw [← hR]
 rw [xR] at hR
 have hel:(mapE Sch.enc ts).length=ts.length:=zq ..
 have hev:(mapE Vr.enc vs).length=vs.length:=zq ..
 generalize mapE Sch.enc ts=ets at *
 obtain ⟨ce,hce⟩:∃ z,z=z7 ts:=⟨_,rfl⟩
 rw [← hce] at p1 hR
 obtain ⟨ec,hec⟩:∃ z,z=e.chk:=⟨_,rfl⟩
 rw [← hec] at p2 p3 hR
 obtain ⟨z1,hz1⟩:∃ z,z=(Ex.kindK ts vs e).1:=⟨_,rfl⟩
 obtain ⟨z2,hz2⟩:∃ z,z=(Ex.kindK ts vs e).2:=⟨_,rfl⟩
 have hz:Ex.kindK ts vs e=(z1,z2):=by rw [hz1,hz2]
 rw [hz] at p3 hR
 dsimp only at p3
 obtain ⟨eO,eA,eV,eF,eK,eXk,eXn,eXt,hx⟩:=Ex.form e
 rw [hx] at p2 p3 kec ⊢
 have keA:(AV.isl 8 eA).closed=true:=by have:=kec;simp [AV.closed,AV.closedL] at this ⊢;exact this
 generalize hes:mapE Vr.enc vs=evs at *
 clear hx hec hce hz hz1 hz2
 refine zr ?_;unhygienic intros
 have n0:iNe 0 0=false:=by simp only [ee];rfl
 refine fB T46 [.t 6,.t 7] ?_
 by_cases h1:ce=0
 rotate_left
 · rw [if_pos h1] at hR
   injection hR with hR1 hR2
   rw [hR1,hR2]
   have q1:iNe ce 0=true:=by simp only [ee];simpa using h1
   clear p2 p3
   refine Aq ?_
   refine oPA p1 ?_
   have fz:=q1
   refine Cq ?_
   refine Aq ?_
   exact fE [.gone]
 rw [if_neg (by omega)] at hR
 subst h1
 by_cases h16:16<vs.length
 · have k16:iLt 16 (lenA evs)=true:=by simp only [ee];simp;omega
   have hv5:x6 ts vs=5:=by rw [x6,if_pos h16]
   rw [hv5,if_pos (by decide)] at hR
   injection hR with hR1 hR2
   rw [hR1,hR2]
   clear p2 p3
   refine Aq ?_
   refine oPA p1 ?_
   have fz:=And.intro n0 k16
   refine Cq ?_
   refine Cr ?_
   refine Aq ?_
   exact fE [.gone]
 have k16:iLt 16 (lenA evs)=false:=by simp only [ee];simp;omega
 refine Aq ?_
 refine oPA p1 ?_
 have fz:=n0
 refine Cq ?_
 have fz:=k16
 refine Cr ?_
 refine Cr ?_
 refine Aq ?_
 refine zf (ι:=List Vr × List Vr × Int) (fun p=>([(22,int p.2.2),(21,int (lenA evs)),(20,.isl 2 evs),(5,.ptr 0 0),(1,.isl 2 evs),(0,.isl 2 ets)],[.cells [int eO,.isl 8 eA,int eV,int eF,int eK,int eXk,int eXn,str eXt]])) (fun p=>vs=p.1++p.2.1∧p.2.2=p.1.length∧p.1.all (tyB ts)=true) (fun p=>p.2.1.length) ([],vs,0) ⟨rfl,rfl,rfl⟩ ?_ ?_
 · exact (eS [.to 0] [some 0])
 rintro ⟨d,r,i⟩ ⟨g1,gi,ga⟩
 dsimp only at g1 gi ga ⊢
 cases r with
 | nil =>
  have L1:=zu g1
  try simp only [List.length] at L1
  have hc:iLt i (lenA evs)=false:=yW e_iLt e_lenA (by omega)
  rw [List.append_nil] at g1
  rw [← g1] at ga
  have hv0:=varsR_good h16 ga
  rw [hv0,if_neg (by decide)] at hR
  replace p3:=p3 hv0
  by_cases h2:ec=0
  rotate_left
  · have q1:iNe ec 0=true:=by simp only [ee];simpa using h2
    rw [if_pos h2] at hR
    injection hR with hR1 hR2
    rw [hR1,hR2]
    clear p3
    have fz:=And.intro hc q1
    refine Cq ?_
    refine Aq ?_
    refine zo ?_
    refine Aq ?_
    refine oPA p2 ?_
    refine Cq ?_
    refine Aq ?_
    exact fE [.gone]
  rw [if_neg (by omega)] at hR
  replace p3:=p3 h2
  subst h2
  injection hR with hR1 hR2
  rw [hR1,hR2]
  have fz:=And.intro hc n0
  refine Cq ?_
  refine Aq ?_
  refine zo ?_
  refine Aq ?_
  refine oPA p2 ?_
  refine Cq ?_
  refine Aq ?_
  refine oPA p3 ?_
  refine Aq ?_
  exact fE [.gone]
 | cons v r =>
  have L1:=zu g1
  try simp only [List.length] at L1
  have hc:iLt i (lenA evs)=true:=yY e_iLt e_lenA (by omega)
  have hat:=zP e_atA hes g1 gi
  rw [Vr.enc_eq] at hat
  have hi2:iAdd .i64 i 1=((d++[v]).length:Int):=by rw [List.length_append];exact zJ e_iAdd gi (by omega)
  have hgood:tyB ts v=true→(d++[v]).all (tyB ts)=true:=fun e=>by rw [List.all_append,ga];simp [e]
  have hbad:tyB ts v=false→x6 ts vs=6:=varsR_bad h16 g1
  have htB:tyB ts v=decide (0≤v.ty∧v.ty<(ts.length:Int)):=rfl
  rw [htB] at hgood hbad
  clear p2 p3 p1 htB
  generalize v.ty=ty at *
  generalize ba v.nm=nm at *
  by_cases n1:ty<0
  · have q1:iLt ty 0=true:=by simp only [ee];simpa using n1
    rw [hbad (by simp;omega),if_pos (by decide)] at hR
    injection hR with hR1 hR2
    rw [hR1,hR2]
    clear hgood
    have fz:=And.intro hc (And.intro hat q1)
    refine Cq ?_
    refine Cr ?_
    refine oC (fun c1=>?_) fun c1=>?_
    ·
     simp [ee] at c1
     refine Aq ?_
     refine zl ?_
     refine Aq ?_
     exact fE [.gone,.gone]
    simp [ee] at c1
  have q1:iLt ty 0=false:=by simp only [ee];simpa using n1
  by_cases n2:(ts.length:Int)≤ty
  · have q2:iLe (lenA ets) ty=true:=by simp only [ee];simp;omega
    rw [hbad (by simp;omega),if_pos (by decide)] at hR
    injection hR with hR1 hR2
    rw [hR1,hR2]
    clear hgood
    have fz:=And.intro hc (And.intro hat (And.intro q1 q2))
    refine Cq ?_
    refine Cr ?_
    refine oC (fun c1=>?_) fun c1=>?_
    ·
     simp [ee] at c1
     refine Aq ?_
     refine zl ?_
     refine Aq ?_
     exact fE [.gone,.gone]
    simp [ee] at c1
  have q2:iLe (lenA ets) ty=false:=by simp only [ee];simp;omega
  have hgood:=hgood (by simp;omega)
  clear hbad hR
  have fz:=And.intro hc (And.intro hat (And.intro q1 q2))
  refine Cq ?_
  refine Cr ?_
  refine oC (fun c1=>?_) fun c1=>?_
  ·
   simp [ee] at c1
  simp [ee] at c1
  refine Aq ?_
  refine zw (d++[v],r,iAdd .i64 i 1) ⟨by rw [g1];simp,hi2,hgood⟩ (by simp) (eS [.to 0,.gone] [some 0])
theorem wL (ts:List Sch) (vs:List Vr) (e:Ex) (hts:xW ts) (hvs:vs.length<1048577) (he:e.Sm):PCall EE 14 [.isl 2 (mapE Sch.enc ts),.isl 2 (mapE Vr.enc vs),e.enc] (int (wQ ts vs e)):=by
 have p1:=P_Kind ts vs e hts hvs he
 have kts:=Sch.closedI ts
 have kvs:=Vr.closedI vs
 have kec:=Ex.closed e
 obtain ⟨R,hR⟩:∃ R,R=wQ ts vs e:=⟨_,rfl⟩
 rw [← hR]
 rw [wQ] at hR
 generalize (xR ts vs e).1=z1 at *
 generalize (xR ts vs e).2=z2 at *
 generalize mapE Sch.enc ts=ets at *
 generalize mapE Vr.enc vs=evs at *
 obtain ⟨eO,eA,eV,eF,eK,eXk,eXn,eXt,hx⟩:=Ex.form e
 rw [hx] at p1 kec ⊢
 clear hx
 refine zr ?_;unhygienic intros
 refine fB T14 [.t 6] ?_
 refine Aq ?_
 refine oPA p1 ?_
 refine goA 0 ?_
 refine oC (fun c1=>?_) fun c1=>?_
 ·
  simp [ee] at c1
  refine Aq ?_
  exact fI (h:=by rw [hR];(repeat' split)<;>first | rfl | omega)
 simp [ee] at c1
 refine goA 0 ?_
 refine oC (fun c2=>?_) fun c2=>?_
 ·
  simp [ee] at c2
  refine Aq ?_
  exact fI (h:=by rw [hR];(repeat' split)<;>first | rfl | omega)
 simp [ee] at c2
 refine Aq ?_
 exact fI (h:=by rw [hR];(repeat' split)<;>first | rfl | omega)
def vty (vs:List Vr) (v:Int):Int:=(vs.getD v.toNat ⟨[],0⟩).ty
noncomputable def ndE (ts:List Sch) (vs:List Vr) (q:Pat):Int :=
 if q.op=0∨q.op=5 then if q.ty≠vty vs q.var then 9 else wQ ts vs q.cond
 else if q.op=7 then wQ ts vs q.cond else 0
theorem vty_at {vs d r:List Vr} {x:Vr} {v:Int} (h:vs=d++x :: r) (hv:v=d.length):vty vs v=x.ty:=by
 subst h hv;simp [vty]
theorem idxE_zero {α:Type} (F:α→Int):∀ l:List α,zm F l=0→yg F l=0
 | [],_=>rfl
 | x :: r,h=>by
  rw [yg]
  by_cases hx:F x=0
  · rw [zm,if_neg (by simpa using hx)] at h
    rw [if_neg (by simpa using hx),if_neg (by simpa using h)]
  rw [zm,if_pos hx] at h;exact absurd h hx
theorem idxE_append {α:Type} (F:α→Int):∀ a b:List α,zm F a=0→zm F b≠0→yg F (a++b)=a.length+yg F b
 | [],b,_,_=>by simp
 | x :: r,b,h,h2=>by
  by_cases hx:F x=0
  · rw [zm,if_neg (by simpa using hx)] at h
    rw [List.cons_append,yg,if_neg (by simpa using hx),if_pos (by rw [z8,if_neg (by simpa using h)];exact h2),idxE_append F r b h h2,List.length_cons]
    omega
  rw [zm,if_pos hx] at h;exact absurd h hx
theorem idxE_left {α:Type} (F:α→Int):∀ a b:List α,zm F a≠0→yg F (a++b)=yg F a
 | [],b,h=>by simp [zm] at h
 | x :: r,b,h=>by
  by_cases hx:F x=0
  · rw [zm,if_neg (by simpa using hx)] at h
    rw [List.cons_append,yg,if_neg (by simpa using hx),if_pos (by rw [z8,if_pos h];exact h),idxE_left F r b h,yg,if_neg (by simpa using hx),if_pos h]
  rw [List.cons_append,yg,if_pos hx,yg,if_pos hx]
theorem on_joinL {E:Env} {n N:Nat} {Q:zL→AFr→zz→Prop} {cur1:Cur} {k1:List KI} {F1:AFr} {H1:zz} (cur:Cur) (k:List KI) (F0:AFr) (H0:zz) (h:Holds E n N Q cur k F0 H0→Holds E n N Q cur1 k1 F1 H1) (t:Holds E n N Q cur k F0 H0):Holds E n N Q cur1 k1 F1 H1:=h t
theorem Pat.cntL_nodes (a:List Pat):((Pat.nodesL a).length:Int)=Pat.cntL a:=by rw [Pat.nodesL_len']
theorem enters___typecheck_walker__node : yr EE.P 55:=enters_of rfl (by decide) T55.2
theorem C_node (ts:List Sch) (vs:List Vr) (hts:xW ts) (hvs:vs.length<1048577):∀ p:Pat,p.Sm→(∀ q∈p.nodes,q.op=0∨q.op=5→0≤q.var∧q.var<vs.length)→∀ n:Int,0≤n→n+p.cnt<1073741824 →
 ACall EE 55 [.ptr 0 0,p.enc] [.cells [.isl 2 (mapE Sch.enc ts),.isl 2 (mapE Vr.enc vs),int n]] (fun v H' =>
  (zm (ndE ts vs) p.nodes=0∧v=.tup [int 0,int 0]∧H'=[.cells [.isl 2 (mapE Sch.enc ts),.isl 2 (mapE Vr.enc vs),int (n+p.cnt)]]) ∨
  (zm (ndE ts vs) p.nodes≠0∧v=.tup [int (n+yg (ndE ts vs) p.nodes),int (zm (ndE ts vs) p.nodes)]∧∃ m,H'=[.cells [.isl 2 (mapE Sch.enc ts),.isl 2 (mapE Vr.enc vs),int m]])):=by
 refine Pat.ind ?_
 intro o a t v s sp c ih hs hv n hn0 hn1
 have hlen:=hs.len
 have hih:∀ q∈a,∀ n:Int,0≤n→n+q.cnt<1073741824→_:=fun q hq=>ih q hq (hs.arg hq) fun q2 hq2=>hv q2 (by
  simp only [Pat.nodes]
  obtain ⟨d,r,rfl⟩:=List.append_of_mem hq
  simp [Pat.nodesL_append,Pat.nodesL,hq2])
 have hv0:=hv _ (by simp only [Pat.nodes];exact List.mem_cons_self)
 have pc:=wL ts vs c hts hvs (hs.2 c (by simp [Pat.exs]))
 have kts:=Sch.closedI ts
 have kvs:=Vr.closedI vs
 have kcl:=Pat.closedI a
 have hev:(mapE Vr.enc vs).length=vs.length:=zq ..
 have kpc:=Pat.closed (.mk o a t v s sp c)
 have hcnt:(Pat.mk o a t v s sp c).cnt=1+Pat.cntL a:=by simp only [Pat.cnt]
 rw [hcnt] at hn1 ⊢
 simp only [Pat.nodes]
 obtain ⟨F,hF⟩:∃ F,F=ndE ts vs:=⟨_,rfl⟩
 have hnd:F (.mk o a t v s sp c)=if o=0∨o=5 then if t≠vty vs v then 9 else wQ ts vs c else if o=7 then wQ ts vs c else 0:=by rw [hF];rfl
 rw [← hF] at hih ⊢
 simp only [Pat.op,Pat.var] at hv0
 obtain ⟨pp,hpp⟩:∃ z,z=Pat.mk o a t v s sp c:=⟨_,rfl⟩
 rw [← hpp] at hnd ⊢
 obtain ⟨co,ca,cv,cf,ck,⟨xk,xn,xt⟩⟩:=c
 rw [Pat.enc_mk] at kpc
 rw [hpp,Pat.enc_mk]
 rw [← hpp]
 rw [Ex.enc_mk] at pc
 dsimp only at pc kpc ⊢
 have kce:=Ex.closedI ca
 obtain ⟨cd,hcd⟩:∃ z,z=wQ ts vs (.mk co ca cv cf ck ⟨xk,xn,xt⟩):=⟨_,rfl⟩
 rw [← hcd] at pc hnd
 have hvx:o=0∨o=5→∃ d x r,vs=d++x :: r∧v=d.length:=fun h=>by
  obtain ⟨d,x,r,e1,e2,_⟩:=xT (l:=vs) (n:=v.toNat) (by have:=hv0 h;omega)
  exact ⟨d,x,r,e1,by have:=hv0 h;omega⟩
 have hat:o=0∨o=5→0≤v∧v<(mapE Vr.enc vs).length∧∃ nm,(mapE Vr.enc vs).getD v.toNat .undef=.agg [str nm,int (vty vs v)]:=fun h=>by
  obtain ⟨d,x,r,e1,e2⟩:=hvx h
  refine ⟨(hv0 h).1,by rw [hev];exact (hv0 h).2,ba x.nm,?_⟩
  rw [vty_at e1 e2,e1,e2,zk,List.map_append,List.map_cons]
  simp [Vr.enc_eq]
 generalize vty vs v=vt at *
 clear ih hs hv hvx hv0 hcd
 by_cases hz:F pp=0
 rotate_left
 · have hf1:zm F (pp :: Pat.nodesL a)=F pp:=by rw [zm,if_pos hz]
   have hf2:yg F (pp :: Pat.nodesL a)=0:=by rw [yg,if_pos hz]
   rw [hf1,hf2]
   rw [← hcnt] at hn1
   obtain ⟨nd,hnd2⟩:∃ z,z=F pp:=⟨_,rfl⟩
   rw [← hnd2] at hz hnd ⊢
   clear hih hf1 hf2 hnd2 hcnt
   refine ACall.mono (R:=fun v H'=>v=.tup [int n,int nd]∧∃ m,H'=[.cells [.isl 2 (mapE Sch.enc ts),.isl 2 (mapE Vr.enc vs),int m]]) ?_ (by rintro v H' ⟨rfl,m,rfl⟩;exact .inr ⟨hz,by simp,m,rfl⟩)
   refine zr ?_;unhygienic intros
   generalize mapE Sch.enc ts=ets at *
   generalize mapE Vr.enc vs=evs at *
   generalize mapE Pat.enc a=es at *
   generalize mapE Ex.enc ca=ec at *
   by_cases o0:o=0
   · rw [if_pos (by omega)] at hnd
     obtain ⟨b0,b1,nm,kat⟩:=hat (by omega)
     have kat:atA evs v=.agg [str nm,int vt]:=by simp only [ee];exact kat
     have kb:0≤v∧v<lenA evs:=by simp only [ee];omega
     have q0:iEq o 0=true:=by simp only [ee];simpa using o0
     by_cases ht:t=vt
     · rw [if_neg (by omega)] at hnd
       subst hnd
       have nE:iNe t vt=false:=by simp only [ee];simpa using ht
       have qc:iNe nd 0=true:=by simp only [ee];simpa using hz
       refine rB T55 [.t 4,.t 5] ?_
       show Holds EE 76 1 _ _ _ _ _
       have fz:=And.intro q0 (And.intro kat (And.intro nE qc))
       refine Cq ?_
       refine Cr ?_
       refine Cr ?_
       refine Aq ?_
       refine zb rfl (by conv=>lhs;cbv) rfl ?_
       refine tgA ?_
       refine oPT pc ?_
       refine tgA ?_
       refine zW ⟨rfl,by simp [za,zZ],?_⟩
       refine Cq ?_
       refine Aq ?_
       refine xi (F2:=[(4,int n),(5,int nd)]) (H2:=[.cells [.isl 2 ets,.isl 2 evs,int (iAdd .i64 n 1)]]) (eN [.to 0,.gone] [some 0]) rfl ⟨rfl,_,rfl⟩
     rw [if_pos ht] at hnd
     subst hnd
     have nE:iNe t vt=true:=by simp only [ee];simpa using ht
     refine rB T55 [.t 4,.t 5] ?_
     show Holds EE 76 1 _ _ _ _ _
     have fz:=And.intro q0 (And.intro kat nE)
     refine Cq ?_
     refine Cr ?_
     refine Cr ?_
     refine Aq ?_
     refine xi (F2:=[(4,int n),(5,int 9)]) (H2:=[.cells [.isl 2 ets,.isl 2 evs,int (iAdd .i64 n 1)]]) (eN [.to 0,.gone] [some 0]) rfl ⟨rfl,_,rfl⟩
   have q0:iEq o 0=false:=by simp only [ee];simpa using o0
   by_cases o5:o=5
   · rw [if_pos (by omega)] at hnd
     obtain ⟨b0,b1,nm,kat⟩:=hat (by omega)
     have kat:atA evs v=.agg [str nm,int vt]:=by simp only [ee];exact kat
     have kb:0≤v∧v<lenA evs:=by simp only [ee];omega
     have q5:iEq o 5=true:=by simp only [ee];simpa using o5
     by_cases ht:t=vt
     · rw [if_neg (by omega)] at hnd
       subst hnd
       have nE:iNe t vt=false:=by simp only [ee];simpa using ht
       have qc:iNe nd 0=true:=by simp only [ee];simpa using hz
       refine rB T55 [.t 4,.t 5] ?_
       show Holds EE 76 1 _ _ _ _ _
       have fz:=And.intro q0 (And.intro q5 (And.intro kat (And.intro nE qc)))
       refine Cq ?_
       refine Cr ?_
       refine Cr ?_
       refine Aq ?_
       refine zb rfl (by conv=>lhs;cbv) rfl ?_
       refine tgA ?_
       refine oPT pc ?_
       refine tgA ?_
       refine zW ⟨rfl,by simp [za,zZ],?_⟩
       refine Cq ?_
       refine Aq ?_
       refine xi (F2:=[(4,int n),(5,int nd)]) (H2:=[.cells [.isl 2 ets,.isl 2 evs,int (iAdd .i64 n 1)]]) (eN [.to 0,.gone] [some 0]) rfl ⟨rfl,_,rfl⟩
     rw [if_pos ht] at hnd
     subst hnd
     have nE:iNe t vt=true:=by simp only [ee];simpa using ht
     refine rB T55 [.t 4,.t 5] ?_
     show Holds EE 76 1 _ _ _ _ _
     have fz:=And.intro q0 (And.intro q5 (And.intro kat nE))
     refine Cq ?_
     refine Cr ?_
     refine Cr ?_
     refine Aq ?_
     refine xi (F2:=[(4,int n),(5,int 9)]) (H2:=[.cells [.isl 2 ets,.isl 2 evs,int (iAdd .i64 n 1)]]) (eN [.to 0,.gone] [some 0]) rfl ⟨rfl,_,rfl⟩
   have q5:iEq o 5=false:=by simp only [ee];simpa using o5
   rw [if_neg (by omega)] at hnd
   by_cases o7:o=7
   · have q7:iEq o 7=true:=by simp only [ee];simpa using o7
     rw [if_pos o7] at hnd
     subst hnd
     have qc:iNe nd 0=true:=by simp only [ee];simpa using hz
     clear hat
     refine rB T55 [.t 4,.t 5] ?_
     show Holds EE 76 1 _ _ _ _ _
     have fz:=And.intro q0 (And.intro q5 (And.intro q7 qc))
     refine Cq ?_
     refine Cr ?_
     refine Cr ?_
     refine Aq ?_
     refine zb rfl (by conv=>lhs;cbv) rfl ?_
     refine tgA ?_
     refine oPT pc ?_
     refine tgA ?_
     refine zW ⟨rfl,by simp [za,zZ],?_⟩
     refine Cq ?_
     refine Aq ?_
     refine xi (F2:=[(4,int n),(5,int nd)]) (H2:=[.cells [.isl 2 ets,.isl 2 evs,int (iAdd .i64 n 1)]]) (eN [.to 0,.gone] [some 0]) rfl ⟨rfl,_,rfl⟩
   rw [if_neg o7] at hnd
   exact absurd hnd hz
 have hf1:zm F (pp :: Pat.nodesL a)=zm F (Pat.nodesL a):=by rw [zm,if_neg (by simpa using hz)]
 have hf2:zm F (Pat.nodesL a)≠0→yg F (pp :: Pat.nodesL a)=1+yg F (Pat.nodesL a):=fun h=>by rw [yg,if_neg (by simpa using hz),if_pos h];omega
 rw [hf1]
 rw [hz] at hnd
 have ktl:AV.closedL (mapE Sch.enc ts)=true:=Sch.closedL ts
 have kvl:AV.closedL (mapE Vr.enc vs)=true:=Vr.closedL vs
 clear hz hf1 hcnt
 refine zr ?_;unhygienic intros
 have n0:iNe 0 0=false:=by simp only [ee];rfl
 have hn2:iAdd .i64 n 1=n+1:=ww e_iAdd (by omega) (by omega)
 generalize mapE Sch.enc ts=ets at *
 generalize mapE Vr.enc vs=evs at *
 generalize hes:mapE Pat.enc a=es at *
 have hel:es.length=a.length:=by rw [← hes,zq]
 generalize mapE Ex.enc ca=ec at *
 refine rB T55 [.t 4,.t 5] ?_
 show Holds EE 76 1 _ _ _ _ _
 apply on_joinL (F0:=[(61,int 0),(60,int (lenA es)),(59,.isl 14 es),(0,.ptr 0 0)]) (H0:=[.cells [.isl 2 ets,.isl 2 evs,int (iAdd .i64 n 1)]])
 · intro hj
   by_cases o0:o=0
   · rw [if_pos (by omega)] at hnd
     obtain ⟨b0,b1,nm,kat⟩:=hat (by omega)
     have kat:atA evs v=.agg [str nm,int vt]:=by simp only [ee];exact kat
     have kb:0≤v∧v<lenA evs:=by simp only [ee];omega
     have q0:iEq o 0=true:=by simp only [ee];simpa using o0
     have ht:t=vt:=Classical.byContradiction fun h=>by rw [if_pos h] at hnd;cases hnd
     rw [if_neg (by omega)] at hnd
     rw [← hnd] at pc
     have nE:iNe t vt=false:=by simp only [ee];simpa using ht
     have fz:=And.intro q0 (And.intro kat (And.intro nE n0))
     refine Cq ?_
     refine Cr ?_
     refine Cr ?_
     refine Aq ?_
     refine zb rfl (by conv=>lhs;cbv) rfl ?_
     refine tgA ?_
     refine oPT pc ?_
     refine tgA ?_
     refine zW ⟨rfl,by simp [za,zZ],?_⟩
     refine Cq ?_
     refine Aq ?_
     refine xM ?_ hj
     exact (eN [.to 0,.gone] [some 0])
   have q0:iEq o 0=false:=by simp only [ee];simpa using o0
   by_cases o5:o=5
   · rw [if_pos (by omega)] at hnd
     obtain ⟨b0,b1,nm,kat⟩:=hat (by omega)
     have kat:atA evs v=.agg [str nm,int vt]:=by simp only [ee];exact kat
     have kb:0≤v∧v<lenA evs:=by simp only [ee];omega
     have q5:iEq o 5=true:=by simp only [ee];simpa using o5
     have ht:t=vt:=Classical.byContradiction fun h=>by rw [if_pos h] at hnd;cases hnd
     rw [if_neg (by omega)] at hnd
     rw [← hnd] at pc
     have nE:iNe t vt=false:=by simp only [ee];simpa using ht
     have fz:=And.intro q0 (And.intro q5 (And.intro kat (And.intro nE n0)))
     refine Cq ?_
     refine Cr ?_
     refine Cr ?_
     refine Aq ?_
     refine zb rfl (by conv=>lhs;cbv) rfl ?_
     refine tgA ?_
     refine oPT pc ?_
     refine tgA ?_
     refine zW ⟨rfl,by simp [za,zZ],?_⟩
     refine Cq ?_
     refine Aq ?_
     refine xM ?_ hj
     exact (eN [.to 0,.gone] [some 0])
   have q5:iEq o 5=false:=by simp only [ee];simpa using o5
   rw [if_neg (by omega)] at hnd
   by_cases o7:o=7
   · have q7:iEq o 7=true:=by simp only [ee];simpa using o7
     rw [if_pos o7] at hnd
     rw [← hnd] at pc
     have fz:=And.intro q0 (And.intro q5 (And.intro q7 n0))
     refine Cq ?_
     refine Cr ?_
     refine Cr ?_
     refine Aq ?_
     refine zb rfl (by conv=>lhs;cbv) rfl ?_
     refine tgA ?_
     refine oPT pc ?_
     refine tgA ?_
     refine zW ⟨rfl,by simp [za,zZ],?_⟩
     refine Cq ?_
     refine Aq ?_
     refine xM ?_ hj
     exact (eN [.to 0,.gone] [some 0])
   have q7:iEq o 7=false:=by simp only [ee];simpa using o7
   have fz:=And.intro q0 (And.intro q5 (And.intro q7 n0))
   refine Cq ?_
   refine Cr ?_
   refine Cr ?_
   refine Aq ?_
   refine xM ?_ hj
   exact (eN [.to 0,.gone] [some 0])
 clear hat hnd pc kpc
 refine zf (ι:=List Pat × List Pat × Int × Int) (fun p=>([(61,int p.2.2.1),(60,int (lenA es)),(59,.isl 14 es),(0,.ptr 0 0)],[.cells [.isl 2 ets,.isl 2 evs,int p.2.2.2]])) (fun p=>a=p.1++p.2.1∧p.2.2.1=p.1.length∧p.2.2.2=n+1+Pat.cntL p.1∧zm F (Pat.nodesL p.1)=0) (fun p=>p.2.1.length) ([],a,0,iAdd .i64 n 1) ⟨rfl,rfl,by rw [hn2];simp [Pat.cntL],rfl⟩ ?_ ?_
 · exact (eN [.to 0] [some 0])
 rintro ⟨d,r,i,m⟩ ⟨g1,gi,gm,gd⟩
 dsimp only at g1 gi gm gd ⊢
 cases r with
 | nil =>
  have L1:=zu g1
  try simp only [List.length] at L1
  have hc:iLt i (lenA es)=false:=yW e_iLt e_lenA (by omega)
  rw [List.append_nil] at g1
  rw [g1,gd]
  have hmf:n+((1+Pat.cntL d:Nat):Int)=m:=by omega
  rw [hmf]
  clear hih hf2
  have fz:=hc
  refine Cq ?_
  refine Aq ?_
  refine zo ?_
  refine Aq ?_
  refine xi (F2:=[(4,int 0),(5,int 0)]) (H2:=[.cells [.isl 2 ets,.isl 2 evs,int m]]) (eN [.to 0] [some 0]) rfl (.inl ⟨rfl,rfl,rfl⟩)
 | cons q r =>
  have L1:=zu g1
  try simp only [List.length] at L1
  have hc:iLt i (lenA es)=true:=yY e_iLt e_lenA (by omega)
  have hat:=zP e_atA hes g1 gi
  have hi2:iAdd .i64 i 1=((d++[q]).length:Int):=by rw [List.length_append];exact zJ e_iAdd gi (by omega)
  have hca:Pat.cntL a=Pat.cntL d+(q.cnt+Pat.cntL r):=by rw [g1,Pat.cntL_append,Pat.cntL]
  have hq:=hih q (by rw [g1];simp) m (by omega) (by omega)
  have hqc:=Pat.closed q
  have hna:Pat.nodesL a=Pat.nodesL d++(q.nodes++Pat.nodesL r):=by rw [g1,Pat.nodesL_append,Pat.nodesL]
  have hgood:zm F q.nodes=0→m+q.cnt=n+1+Pat.cntL (d++[q])∧zm F (Pat.nodesL (d++[q]))=0:=fun h=>by
   rw [Pat.cntL_append,Pat.nodesL_append,z8,if_neg (by simpa using gd)]
   simp only [Pat.cntL,Pat.nodesL,List.append_nil]
   exact ⟨by omega,h⟩
  have hbad:zm F q.nodes≠0→zm F (Pat.nodesL a)=zm F q.nodes∧n+yg F (pp :: Pat.nodesL a)=m+yg F q.nodes:=fun h=>by
   have e1:zm F (Pat.nodesL a)=zm F q.nodes:=by rw [hna,z8,if_neg (by simpa using gd),z8,if_pos h]
   refine ⟨e1,?_⟩
   rw [hf2 (by rw [e1];exact h),hna,idxE_append F _ _ gd (by rw [z8,if_pos h];exact h),idxE_left F _ _ h,Pat.cntL_nodes]
   omega
  obtain ⟨qO,qA,qT,qV,qS,qN,qCo,qCa,qCv,qCf,qCk,qXk,qXn,qXt,hx⟩:=Pat.form q
  rw [hx] at hat hqc hq
  clear hih hf2 hna hca
  generalize zm F q.nodes=fq at *
  generalize yg F q.nodes=xq at *
  generalize (q.cnt:Int)=qn at *
  have fz:=And.intro hc hat
  refine Cq ?_
  refine Cr ?_
  refine Aq ?_
  refine wO [0] rfl rfl enters___typecheck_walker__node hq (by decide) (by simp) (by show _=[AObj.cells [AV.isl 2 (AV.subL _ ets),AV.isl 2 (AV.subL _ evs),int m]];rw [zp _ ktl,zp _ kvl]) (by show _=[AV.ptr 0 0,AV.agg (AV.subL _ _)];rw [zp _ (show AV.closedL [int qO,.isl 14 qA,int qT,int qV,int qS,int qN,int qCo,.isl 8 qCa,int qCv,int qCf,int qCk,int qXk,int qXn,str qXt]=true from hqc)]) ?_
  rintro v0 H' (⟨h0,rfl,rfl⟩ | ⟨h0,rfl,m2,rfl⟩) -
  · have hgood:=hgood h0
    clear hbad
    have hm:∀ x:AObj,yX [x,.cells [int qO,.isl 14 qA,int qT,int qV,int qS,int qN,int qCo,.isl 8 qCa,int qCv,int qCf,int qCk,int qXk,int qXn,str qXt]] [0] [.cells [.isl 2 ets,.isl 2 evs,int (m+qn)]]=[.cells [.isl 2 ets,.isl 2 evs,int (m+qn)],.cells [int qO,.isl 14 qA,int qT,int qV,int qS,int qN,int qCo,.isl 8 qCa,int qCv,int qCf,int qCk,int qXk,int qXn,str qXt]]:=fun _=>by
     show [AObj.cells [AV.isl 2 (AV.subL _ ets),AV.isl 2 (AV.subL _ evs),int _],_]=_
     rw [zp _ ktl,zp _ kvl];rfl
    rw [hm]
    generalize m+qn=m2 at *
    have fz:=n0
    refine Cq ?_
    refine Aq ?_
    refine zw (d++[q],r,iAdd .i64 i 1,m2) ⟨by rw [g1];simp,hi2,hgood.1,hgood.2⟩ (by simp) (eN [.to 0,.gone] [some 0])
  obtain ⟨e1,e2⟩:=hbad h0
  clear hgood
  rw [e1,e2]
  have hm:∀ x:AObj,yX [x,.cells [int qO,.isl 14 qA,int qT,int qV,int qS,int qN,int qCo,.isl 8 qCa,int qCv,int qCf,int qCk,int qXk,int qXn,str qXt]] [0] [.cells [.isl 2 ets,.isl 2 evs,int (m2)]]=[.cells [.isl 2 ets,.isl 2 evs,int (m2)],.cells [int qO,.isl 14 qA,int qT,int qV,int qS,int qN,int qCo,.isl 8 qCa,int qCv,int qCf,int qCk,int qXk,int qXn,str qXt]]:=fun _=>by
   show [AObj.cells [AV.isl 2 (AV.subL _ ets),AV.isl 2 (AV.subL _ evs),int _],_]=_
   rw [zp _ ktl,zp _ kvl];rfl
  rw [hm]
  have q1:iNe fq 0=true:=by simp only [ee];simpa using h0
  generalize m+xq=m3 at *
  have fz:=q1
  refine Cq ?_
  refine Aq ?_
  refine zl ?_
  refine Aq ?_
  refine xi (F2:=[(4,int m3),(5,int fq)]) (H2:=[.cells [.isl 2 ets,.isl 2 evs,int m2]]) (eN [.to 0,.gone] [some 0]) rfl (.inr ⟨h0,rfl,_,rfl⟩)
end Go.Am
end
