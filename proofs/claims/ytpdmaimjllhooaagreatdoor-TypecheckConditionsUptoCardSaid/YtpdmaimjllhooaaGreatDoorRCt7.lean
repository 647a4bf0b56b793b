/- Contracts of the program's functions. -/
import Derived.Test.YtpdmaimjllhooaaGreatDoorProg
import Derived.Test.YtpdmaimjllhooaaGreatDoorRCt4
import Derived.Test.YtpdmaimjllhooaaGreatDoorRCt5
section
set_option maxHeartbeats 16000000
set_option maxRecDepth 100000
namespace Go.Am
open Go.Proofs
theorem P_ref08_nodes : ∀ e:Ex,e.Sm→PCall EE 135 [e.enc] (int (zm Ex.nodeE e.nodes)):=by
 refine Ex.ind ?_
 intro o a v f k x ih hs
 have hlen:=hs.len
 have hih:∀ q∈a,PCall EE 135 [q.enc] (int (zm Ex.nodeE q.nodes)):=fun q hq=>ih q hq (hs.arg hq)
 have hcl:=Ex.closedI a
 have hh:=P_ref08_node (.mk o a v f k x) (by exact hlen)
 have hpc:=Ex.closed (.mk o a v f k x)
 rw [Ex.nodes]
 obtain ⟨R,hR⟩:∃ R,R=zm Ex.nodeE (Ex.mk o a v f k x :: Ex.nodesL a):=⟨_,rfl⟩
 rw [← hR]
 rw [zm] at hR
 obtain ⟨xk,xn,xt⟩:=x
 rw [Ex.enc_mk] at hpc hh ⊢
 dsimp only at hpc hh ⊢
 clear ih hs
 refine zr ?_;unhygienic intros
 generalize hes:mapE Ex.enc a=es at *
 have hel:es.length=a.length:=by rw [← hes,zq]
 generalize (Ex.mk o a v f k { kind:=xk,num:=xn,text:=xt }).nodeE=fp at *
 refine fB T135 [.t 2] ?_
 by_cases h1:fp=0
 rotate_left
 · have w1:iNe fp 0=true:=by simp only [ee];simpa using h1
   have hR:R=fp:=by rw [hR,if_pos h1]
   refine Aq ?_
   refine oPA hh ?_
   have fz:=w1
   refine Cq ?_
   refine Aq ?_
   exact fI (h:=hR.symm)
 have w1:iNe fp 0=false:=by simp only [ee];simpa using h1
 have hR:R=zm Ex.nodeE (Ex.nodesL a):=by rw [hR,if_neg (by simpa using h1)]
 refine Aq ?_
 refine oPA hh ?_
 have fz:=w1
 refine Cq ?_
 refine Aq ?_
 refine zf (ι:=List Ex × List Ex × Int) (fun p=>([(4,int p.2.2),(1,.ptr 0 0)],[.cells [int o,.isl 8 es,int v,int f,int k,int xk,int xn,str xt]])) (fun p=>a=p.1++p.2.1∧p.2.2=p.1.length∧R=zm Ex.nodeE (Ex.nodesL p.2.1)) (fun p=>p.2.1.length) ([],a,0) ⟨rfl,rfl,hR⟩ ?_ ?_
 · exact (eS [.to 0] [some 0])
 rintro ⟨d,r,i⟩ ⟨g1,gi,gR⟩
 dsimp only at g1 gi gR ⊢
 cases r with
 | nil =>
  have L1:=zu g1
  try simp only [List.length] at L1
  have hc:iLt i (lenA es)=false:=yW e_iLt e_lenA (by omega)
  have gR:R=0:=gR
  have fz:=hc
  refine Cq ?_
  refine Aq ?_
  refine zo ?_
  refine Aq ?_
  exact fI (h:=gR.symm)
 | cons q r =>
  have L1:=zu g1
  try simp only [List.length] at L1
  have hc:iLt i (lenA es)=true:=yY e_iLt e_lenA (by omega)
  have hat:=zP e_atA hes g1 gi
  have hq:=hih q (by rw [g1];simp)
  have hqc:=Ex.closed q
  rw [Ex.nodesL,z8] at gR
  obtain ⟨qO,qA,qV,qF,qK,qXk,qXn,qXt,hx⟩:=Ex.form q
  rw [hx] at hat hqc hq
  have hi2:iAdd .i64 i 1=((d++[q]).length:Int):=by rw [List.length_append];exact zJ e_iAdd gi (by omega)
  generalize zm Ex.nodeE q.nodes=fq at *
  by_cases h2:fq=0
  · have w2:iNe fq 0=false:=by simp only [ee];simpa using h2
    rw [if_neg (by simpa using h2)] at gR
    have fz:=And.intro hc (And.intro hat w2)
    refine Cq ?_
    refine Cr ?_
    refine oPA hq ?_
    refine Cq ?_
    refine Aq ?_
    refine zw (d++[q],r,iAdd .i64 i 1) ⟨by simp [g1],hi2,gR⟩ (by simp) (eS [.to 0] [some 0])
  have w2:iNe fq 0=true:=by simp only [ee];simpa using h2
  rw [if_pos h2] at gR
  have fz:=And.intro hc (And.intro hat w2)
  refine Cq ?_
  refine Cr ?_
  refine oPA hq ?_
  refine Cq ?_
  refine Aq ?_
  refine zl ?_
  refine Aq ?_
  exact fI (h:=gR.symm)
theorem P_ref08_Check (e:Ex) (hs:e.Sm):PCall EE 92 [e.enc] (int e.chk):=by
 have h1:=P_ref08_Count 64 (by decide) e hs
 have h2:=P_ref08_Depth e hs
 have h3:=P_ref08_nodes e hs
 have htot:=Ex.tot_iff e 64
 have hcl:=Ex.closed e
 obtain ⟨R,hR⟩:∃ R,R=e.chk:=⟨_,rfl⟩
 rw [← hR]
 unfold Ex.chk at hR
 obtain ⟨tt,htt⟩:∃ z:Int,z=e.tot 64:=⟨_,rfl⟩
 obtain ⟨dp,hdp⟩:∃ z:Int,z=e.dep:=⟨_,rfl⟩
 rw [← htt] at h1
 rw [← hdp] at h2
 generalize zm Ex.nodeE e.nodes=fe at *
 obtain ⟨eO,eA,eV,eF,eK,eXk,eXn,eXt,hx⟩:=Ex.form e
 rw [hx] at h1 h2 h3 hcl ⊢
 refine zr ?_;unhygienic intros
 refine fB T92 [.t 2] ?_
 by_cases g1:tt≤64
 rotate_left
 · have k1:iLt 64 tt=true:=by simp only [ee];simp;omega
   rw [if_pos (by omega)] at hR
   refine Aq ?_
   refine oPA h1 ?_
   have fz:=k1
   refine Cq ?_
   refine Aq ?_
   exact fI (h:=hR.symm)
 have k1:iLt 64 tt=false:=by simp only [ee];simp;omega
 rw [if_neg (by omega)] at hR
 by_cases g2:dp≤12
 rotate_left
 · have k2:iLt 12 dp=true:=by simp only [ee];simp;omega
   rw [if_pos (by omega)] at hR
   refine Aq ?_
   refine oPA h1 ?_
   have fz:=And.intro k1 k2
   refine Cq ?_
   refine Aq ?_
   refine oPA h2 ?_
   refine Cq ?_
   refine Aq ?_
   exact fI (h:=hR.symm)
 have k2:iLt 12 dp=false:=by simp only [ee];simp;omega
 rw [if_neg (by omega)] at hR
 refine Aq ?_
 refine oPA h1 ?_
 have fz:=And.intro k1 k2
 refine Cq ?_
 refine Aq ?_
 refine oPA h2 ?_
 refine Cq ?_
 refine Aq ?_
 refine oPA h3 ?_
 refine Aq ?_
 exact fI (h:=hR.symm)
end Go.Am
end
