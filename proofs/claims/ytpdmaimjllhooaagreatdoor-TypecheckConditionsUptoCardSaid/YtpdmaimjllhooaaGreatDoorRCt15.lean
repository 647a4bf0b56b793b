/- Contracts of the program's functions. -/
import Derived.Test.YtpdmaimjllhooaaGreatDoorProg
import Derived.Test.YtpdmaimjllhooaaGreatDoorRCt11
import Derived.Test.YtpdmaimjllhooaaGreatDoorRCt12
import Derived.Test.YtpdmaimjllhooaaGreatDoorCards
import Derived.Test.YtpdmaimjllhooaaGreatDoorRows
import Derived.Test.YtpdmaimjllhooaaGreatDoorTie
section
set_option maxHeartbeats 16000000
set_option maxRecDepth 100000
namespace Go.Am
open Go.Proofs
theorem C_scwalk2 {S:Type} (vf:FuncId) (o3 o4 o5:S→AObj) (V:Int→Pat × Plc→S→S × Bool) (hen:yr EE.P vf)
 (c3:∀ s σ,(o3 s).sub σ=o3 s) (c4:∀ s σ,(o4 s).sub σ=o4 s) (c5:∀ s σ,(o5 s).sub σ=o5 s)
 (hV:∀ (i:Int) (x:Pat × Plc) (s:S),x.1.Sm→x.1.wf→x.2.ok→0≤i→ACall EE vf ([int i,x.1.enc,x.2.enc]++[.ptr 3 0,.ptr 4 0]) (hpV vf [.ptr 3 0,.ptr 4 0] o3 o4 o5 i s) (fun v H'=>v=bool (V i x s).2∧H'=hpV vf [.ptr 3 0,.ptr 4 0] o3 o4 o5 i (V i x s).1))
 (p:Pat) (hs:p.Sm) (hw:p.wf) (hn:p.cnt<1073741824) (s:S) :
 ACall EE 99 [p.enc,.fn vf [.ptr 0 0,.ptr 1 0]] [o3 s,o4 s,o5 s] (fun _ H'=>H'=[o3 (xE V (-1) s (Pat.lf PlcS p)).1,o4 (xE V (-1) s (Pat.lf PlcS p)).1,o5 (xE V (-1) s (Pat.lf PlcS p)).1]):=by
 have hC:=C_each vf [.ptr 3 0,.ptr 4 0] o3 o4 o5 V hen (fun s σ _=>c3 s σ) (fun s σ _=>c4 s σ) (fun s σ _=>c5 s σ)
  (fun σ h=>by simp only [AV.subL,AV.sub,h 3 (by decide),h 4 (by decide)]) hV p hs hw PlcS PlcS_ok (-1) s (by omega) (by omega)
 rw [PlcS_enc] at hC
 unfold hpV at hC
 obtain ⟨⟨s1,i1,b1⟩,hZ⟩:∃ Z:S × Int × Bool,xE V (-1) s (Pat.lf PlcS p)=Z:=⟨_,rfl⟩
 rw [hZ] at hC ⊢
 dsimp only at hC ⊢
 have hpc:=Pat.closed p
 have h0c:(AV.agg [.isl 1 [],.isl 1 [],int (-1)]).closed=true:=rfl
 obtain ⟨pO,pA,pT,pV,pS,pN,pCo,pCa,pCv,pCf,pCk,pXk,pXn,pXt,hx⟩:=Pat.form p
 rw [hx] at hC hpc ⊢
 clear hx
 refine zr ?_;unhygienic intros
 refine rB T99 [] ?_
 show Holds EE 11 3 _ _ _ _ _
 refine goA 0 ?_
 refine xu (F':=[(9,.agg [.isl 1 [],.isl 1 [],int (-1)]),(8,.agg [int pO,.isl 14 pA,int pT,int pV,int pS,int pN,int pCo,.isl 8 pCa,int pCv,int pCf,int pCk,int pXk,int pXn,str pXt]),(7,.fn 139 [.ptr 4 0,.ptr 3 0,.ptr 5 0])]) (H':=[o3 s,o4 s,o5 s,.cells [.fn vf [.ptr 0 0,.ptr 1 0]],.cells [int (-1)],.cells [.fn 139 [.ptr 4 0,.ptr 3 0,.ptr 5 0]]]) ?_ ?_
 · exact (yR [.to 0,.to 1,.to 2,.gone,.to 3,.to 4,.to 5] [some 0,some 1,some 2,some 4,some 5,some 6] ⟨rfl,rfl,rfl,trivial⟩ (by simp) (by simp) ⟨⟨by simp,rfl⟩,⟨by simp,rfl⟩,⟨by simp,rfl⟩,trivial,⟨by simp,rfl⟩,⟨by simp,rfl⟩,⟨by simp,rfl⟩,trivial⟩ ⟨.same 0 _ _ rfl rfl rfl (c3 _ _),.same 1 _ _ rfl rfl rfl (c4 _ _),.same 2 _ _ rfl rfl rfl (c5 _ _),.same 4 _ _ rfl rfl rfl rfl,.same 5 _ _ rfl rfl rfl rfl,.same 6 _ _ rfl rfl rfl rfl,trivial⟩ ⟨.agg' ⟨.nilI _,.nilI _,.refl _,trivial⟩,.cl hpc,.refl _,trivial⟩)
 refine uz [4,3,5,0,1,2] rfl rfl rfl enters_scope_walk_1 hC (by decide) (by simp) ?_ ?_ ?_
 · show _=[AObj.sub _ _,AObj.sub _ _,AObj.sub _ _,AObj.sub _ (o3 s),AObj.sub _ (o4 s),AObj.sub _ (o5 s)]
   rw [c3,c4,c5];rfl
 · show _=[AV.sub (ya [4,3,5,0,1,2]) (.agg [int pO,.isl 14 pA,int pT,int pV,int pS,int pN,int pCo,.isl 8 pCa,int pCv,int pCf,int pCk,int pXk,int pXn,str pXt]),AV.sub (ya [4,3,5,0,1,2]) (.agg [.isl 1 [],.isl 1 [],int (-1)]),AV.sub (ya [4,3,5,0,1,2]) (.ptr 4 0),AV.sub (ya [4,3,5,0,1,2]) (.ptr 3 0),AV.sub (ya [4,3,5,0,1,2]) (.ptr 5 0)]
   rw [zX _ _ _ (Nat.le_refl _) hpc,zX _ _ _ (Nat.le_refl _) h0c];rfl
 rintro v0 H' ⟨rfl,rfl⟩ -
 have hm:∀ (a0 a1 a2 a3 a4 a5:AObj),yX [a0,a1,a2,a3,a4,a5] [4,3,5,0,1,2] [.cells [int i1],.cells [.fn vf [.ptr 3 0,.ptr 4 0]],.cells [.fn 139 [.ptr 0 0,.ptr 1 0,.ptr 2 0]],o3 s1,o4 s1,o5 s1]=[o3 s1,o4 s1,o5 s1,.cells [.fn vf [.ptr 0 0,.ptr 1 0]],.cells [int i1],.cells [.fn 139 [.ptr 4 0,.ptr 3 0,.ptr 5 0]]]:=fun _ _ _ _ _ _=>by
  show [AObj.sub _ (o3 s1),AObj.sub _ (o4 s1),AObj.sub _ (o5 s1),_,_,_]=_
  rw [c3,c4,c5];rfl
 rw [hm]
 refine Aq ?_
 refine o_norm (F2:=[]) (H2:=[o3 s1,o4 s1,o5 s1]) ?_ rfl rfl
 exact (yR [.to 0,.to 1,.to 2,.gone,.gone,.gone] [some 0,some 1,some 2] ⟨rfl,rfl,rfl,trivial⟩ (by simp) (by simp) ⟨⟨by simp,rfl⟩,⟨by simp,rfl⟩,⟨by simp,rfl⟩,trivial,trivial,trivial,trivial⟩ ⟨.same 0 _ _ rfl rfl rfl (c3 _ _),.same 1 _ _ rfl rfl rfl (c4 _ _),.same 2 _ _ rfl rfl rfl (c5 _ _),trivial⟩ trivial)
noncomputable def ckV (i:Int) (x:Pat × Plc) (s:Int × Int):(Int × Int) × Bool :=
 if yB x.1.op=true then (if x.1.cond.fol (x.1.own x.2)=0 then ((0,s.2),true) else ((x.1.cond.fol (x.1.own x.2),i),false)) else (s,true)
theorem enters_scope_Check_1 : yr EE.P 100:=enters_of rfl (by decide) T100.2
theorem C_ck1 (dc:List AV) (hdc:AV.closedL dc=true) (i:Int) (x:Pat × Plc) (s:Int × Int) (hs:x.1.Sm) (hw:x.1.wf) (hl:x.2.ok) :
 ACall EE 100 ([int i,x.1.enc,x.2.enc]++[.ptr 3 0,.ptr 4 0]) (hpV 100 [.ptr 3 0,.ptr 4 0] (fun s=>.cells [int s.1]) (fun s=>.cells [int s.2]) (fun _=>.cells dc) i s)
  (fun v H'=>v=bool (ckV i x s).2∧H'=hpV 100 [.ptr 3 0,.ptr 4 0] (fun s=>.cells [int s.1]) (fun s=>.cells [int s.2]) (fun _=>.cells dc) i (ckV i x s).1):=by
 obtain ⟨p,l⟩:=x
 obtain ⟨e0,i0⟩:=s
 dsimp only at hs hw hl ⊢
 have qo:=fun ht=>P_own p hs hw ht l hl
 have hok:=fun ht=>own_ok hw ht hl
 have qf:=fun ht=>P_follows (p.own l) (by have:=(hok ht).2.2.1;omega) (by have:=(hok ht).2.2.2;omega) p.cond hs.cond'
 obtain ⟨ho0,ho1,_,_,_⟩:=hw.self
 have hrow:=sc_row ho0 ho1
 obtain ⟨Z,hZ⟩:∃ Z,Z=ckV i (p,l) (e0,i0):=⟨_,rfl⟩
 rw [← hZ]
 unfold ckV at hZ
 dsimp only at hZ
 unfold hpV
 obtain ⟨er,eer⟩:∃ z,z=p.cond.fol (p.own l):=⟨_,rfl⟩
 rw [← eer] at hZ qf
 simp only [Plc.enc] at qo qf ⊢
 have hLU:=zx l.us
 have hLS:=zx l.si
 have hcl:=Pat.closed p
 have hcc:=Ex.closed p.cond
 obtain ⟨LU,eLU⟩:∃ z,z=mapE int l.us:=⟨_,rfl⟩
 obtain ⟨LS,eLS⟩:∃ z,z=mapE int l.si:=⟨_,rfl⟩
 obtain ⟨fb,efb⟩:∃ z,z=l.fb:=⟨_,rfl⟩
 rw [← eLU,← eLS,← efb] at qo ⊢
 rw [← eLU] at hLU
 rw [← eLS] at hLS
 have r1:=zx (p.own l).us
 have r2:=zx (p.own l).si
 have hlc:(AV.agg [.isl 1 LU,.isl 1 LS,int fb]).closed=true:=by simp [AV.closed,AV.closedL] at hLU hLS ⊢;exact ⟨hLU,hLS⟩
 obtain ⟨pO,pA,pT,pV,pS,pN,pCo,pCa,pCv,pCf,pCk,pXk,pXn,pXt,hx,hxc,hpO,hpA,hpT,hpV,hpS,hpN⟩:=Pat.form2 p
 rw [hx] at qo hcl ⊢
 rw [hxc] at qf hcc
 rw [← hpO] at hrow hZ qo ho0 ho1 qf
 have hpAI:(AV.isl 14 pA).closed=true:=by have:=hcl;simp [AV.closed,AV.closedL] at this ⊢;exact this.1
 have hpCI:(AV.isl 8 pCa).closed=true:=by have:=hcl;simp [AV.closed,AV.closedL] at this ⊢;exact this.2
 obtain ⟨A1,eA1⟩:∃ z,z=mapE int (p.own l).us:=⟨_,rfl⟩
 obtain ⟨A2,eA2⟩:∃ z,z=mapE int (p.own l).si:=⟨_,rfl⟩
 obtain ⟨f2,ef2⟩:∃ z,z=(p.own l).fb:=⟨_,rfl⟩
 rw [← eA1,← eA2,← ef2] at qo qf
 rw [← eA1] at r1
 rw [← eA2] at r2
 have hcs:(AV.agg [.isl 1 A1,.isl 1 A2,int f2]).closed=true:=by simp [AV.closed,AV.closedL] at r1 r2 ⊢;exact ⟨r1,r2⟩
 clear hx hs hw hok hxc
 refine zr ?_;unhygienic intros
 have hrw:rowA (Classical.choice wT).g pO 2=[bool (vZ pO),bool (yB pO)]:=by rw [e_rowA];exact hrow
 generalize vZ pO=kp at *
 obtain ⟨ts,ets⟩:∃ z,z=yB pO:=⟨_,rfl⟩
 rw [← ets] at hrw hZ qo qf
 have n0:bNot false=true:=by simp only [ee];rfl
 have n1:bNot true=false:=by simp only [ee];rfl
 refine rB T100 [.t 8] ?_
 show Holds EE 26 6 _ _ _ _ _
 cases ts with
 | false =>
  rw [if_neg (show ¬ (false=true) by decide)] at hZ
  rw [hZ]
  have fz:=And.intro hrw n0
  refine Cq ?_
  refine Aq ?_
  refine xi (F2:=[(8,bool true)]) (H2:=[.cells [int i],.cells [.fn 100 [.ptr 3 0,.ptr 4 0]],.cells [.fn 139 [.ptr 0 0,.ptr 1 0,.ptr 2 0]],.cells [int e0],.cells [int i0],.cells dc]) ?_ rfl ⟨rfl,rfl⟩
  exact (yR [.to 0,.to 1,.to 2,.to 3,.to 4,.to 5,.gone,.gone] [some 0,some 1,some 2,some 3,some 4,some 5] ⟨rfl,rfl,rfl,rfl,rfl,rfl,trivial⟩ (by simp) (by simp) ⟨⟨by simp,rfl⟩,⟨by simp,rfl⟩,⟨by simp,rfl⟩,⟨by simp,rfl⟩,⟨by simp,rfl⟩,⟨by simp,rfl⟩,trivial,trivial,trivial⟩ ⟨.same 0 _ _ rfl rfl rfl rfl,.same 1 _ _ rfl rfl rfl rfl,.same 2 _ _ rfl rfl rfl rfl,.same 3 _ _ rfl rfl rfl rfl,.same 4 _ _ rfl rfl rfl rfl,.same 5 _ _ rfl rfl rfl (congrArg AObj.cells (zp _ hdc)),trivial⟩ ⟨.refl _,trivial⟩)
 | true =>
  rw [if_pos rfl] at hZ
  have q1:=qo rfl
  have q2:=qf rfl
  have fz:=And.intro hrw n1
  refine Cq ?_
  have fz:=hrw
  refine Cr ?_
  refine zb rfl (by conv=>lhs;cbv) rfl ?_
  refine tgA ?_
  refine oPT q1 ?_
  refine oPT q2 ?_
  refine tgA ?_
  refine zW ⟨rfl,by simp [za,zZ],?_⟩
  by_cases he:er=0
  · have w1:iNe er 0=false:=by simp only [ee];simpa using he
    have w2:iEq er 0=true:=by simp only [ee];simpa using he
    rw [if_pos he] at hZ
    rw [hZ]
    subst he
    have fz:=And.intro w1 w2
    refine Cq ?_
    refine Cr ?_
    refine Aq ?_
    refine xi (F2:=[(8,bool true)]) (H2:=[.cells [int i],.cells [.fn 100 [.ptr 3 0,.ptr 4 0]],.cells [.fn 139 [.ptr 0 0,.ptr 1 0,.ptr 2 0]],.cells [int 0],.cells [int i0],.cells dc]) ?_ rfl ⟨rfl,rfl⟩
    exact (yR [.to 0,.to 1,.to 2,.to 3,.to 4,.to 5,.gone,.gone] [some 0,some 1,some 2,some 3,some 4,some 5] ⟨rfl,rfl,rfl,rfl,rfl,rfl,trivial⟩ (by simp) (by simp) ⟨⟨by simp,rfl⟩,⟨by simp,rfl⟩,⟨by simp,rfl⟩,⟨by simp,rfl⟩,⟨by simp,rfl⟩,⟨by simp,rfl⟩,trivial,trivial,trivial⟩ ⟨.same 0 _ _ rfl rfl rfl rfl,.same 1 _ _ rfl rfl rfl rfl,.same 2 _ _ rfl rfl rfl rfl,.same 3 _ _ rfl rfl rfl rfl,.same 4 _ _ rfl rfl rfl rfl,.same 5 _ _ rfl rfl rfl (congrArg AObj.cells (zp _ hdc)),trivial⟩ ⟨.refl _,trivial⟩)
  have w1:iNe er 0=true:=by simp only [ee];simpa using he
  have w2:iEq er 0=false:=by simp only [ee];simpa using he
  rw [if_neg he] at hZ
  rw [hZ]
  have fz:=And.intro w1 w2
  refine Cq ?_
  refine Cr ?_
  refine Aq ?_
  refine xi (F2:=[(8,bool false)]) (H2:=[.cells [int i],.cells [.fn 100 [.ptr 3 0,.ptr 4 0]],.cells [.fn 139 [.ptr 0 0,.ptr 1 0,.ptr 2 0]],.cells [int er],.cells [int i],.cells dc]) ?_ rfl ⟨rfl,rfl⟩
  exact (yR [.to 0,.to 1,.to 2,.to 3,.to 4,.to 5,.gone,.gone] [some 0,some 1,some 2,some 3,some 4,some 5] ⟨rfl,rfl,rfl,rfl,rfl,rfl,trivial⟩ (by simp) (by simp) ⟨⟨by simp,rfl⟩,⟨by simp,rfl⟩,⟨by simp,rfl⟩,⟨by simp,rfl⟩,⟨by simp,rfl⟩,⟨by simp,rfl⟩,trivial,trivial,trivial⟩ ⟨.same 0 _ _ rfl rfl rfl rfl,.same 1 _ _ rfl rfl rfl rfl,.same 2 _ _ rfl rfl rfl rfl,.same 3 _ _ rfl rfl rfl rfl,.same 4 _ _ rfl rfl rfl rfl,.same 5 _ _ rfl rfl rfl (congrArg AObj.cells (zp _ hdc)),trivial⟩ ⟨.refl _,trivial⟩)
theorem P_ref09_CheckRest (p:Pat) (hs:p.Sm):PCall EE 40 [p.enc] (int p.chkR):=by
 have h1:=P_ref09_Total 64 (by decide) p hs
 have h2:=P_ref09_Depth p hs
 have h3:=yG p hs
 have htot:=Pat.tot_iff p 64
 have hnd:=hs.node
 have hcn:=cnt_node p
 have hcl:=Pat.closed p
 obtain ⟨R,hR⟩:∃ R,R=p.chkR:=⟨_,rfl⟩
 rw [← hR]
 unfold Pat.chkR at hR
 obtain ⟨tt,htt⟩:∃ z:Int,z=p.tot 64:=⟨_,rfl⟩
 obtain ⟨dp,hdp⟩:∃ z:Int,z=p.dep:=⟨_,rfl⟩
 rw [← htt] at h1
 rw [← hdp] at h2
 have hnl:=Pat.nodes_len p
 have hqn:p.cnt≤64→∀ q∈p.nodes,PCall EE 88 [q.enc] (int q.nodeE):=fun hc q hq=>P_ref09_node q (hnd q hq) (by
  have h1:=(hcn q hq).1
  obtain ⟨o,a,t,v,s,n,c⟩:=q
  have:=Pat.cntL_len a
  simp only [Pat.cnt,Pat.args] at h1 ⊢
  omega)
 have hnc:=Pat.closedI p.nodes
 generalize hnn:p.nodes=nl at *
 obtain ⟨pO,pA,pT,pV,pS,pN,pCo,pCa,pCv,pCf,pCk,pXk,pXn,pXt,hx⟩:=Pat.form p
 rw [hx] at h1 h2 h3 hcl ⊢
 refine zr ?_;unhygienic intros
 generalize hes:mapE Pat.enc nl=es at *
 have hel:es.length=nl.length:=by rw [← hes,zq]
 refine fB T40 [.t 2] ?_
 by_cases g1:tt≤64
 rotate_left
 · have k1:iLt 64 tt=true:=by simp only [ee];simp;omega
   rw [if_pos (by omega)] at hR
   refine Aq ?_
   refine oPA h1 ?_
   have fz:=k1
   refine Cq ?_
   refine Aq ?_
   exact fI (h:=hR.symm)
 have k1:iLt 64 tt=false:=by simp only [ee];simp;omega
 rw [if_neg (by omega)] at hR
 have hqn:=hqn (by omega)
 by_cases g2:dp≤12
 rotate_left
 · have k2:iLt 12 dp=true:=by simp only [ee];simp;omega
   rw [if_pos (by omega)] at hR
   refine Aq ?_
   refine oPA h1 ?_
   have fz:=And.intro k1 k2
   refine Cq ?_
   refine Aq ?_
   refine oPA h2 ?_
   refine Cq ?_
   refine Aq ?_
   exact fI (h:=hR.symm)
 have k2:iLt 12 dp=false:=by simp only [ee];simp;omega
 rw [if_neg (by omega)] at hR
 refine Aq ?_
 refine oPA h1 ?_
 have fz:=And.intro k1 k2
 refine Cq ?_
 refine Aq ?_
 refine oPA h2 ?_
 refine Cq ?_
 refine Aq ?_
 refine oPA h3 ?_
 refine Aq ?_
 refine zf (ι:=List Pat × List Pat × Int) (fun p=>([(4,int p.2.2),(3,.isl 14 es)],[])) (fun p=>nl=p.1++p.2.1∧p.2.2=p.1.length∧R=zm Pat.nodeE p.2.1) (fun p=>p.2.1.length) ([],nl,0) ⟨rfl,rfl,hR⟩ ?_ ?_
 · exact (eS [.gone] [])
 rintro ⟨d,r,i⟩ ⟨g1,gi,gR⟩
 dsimp only at g1 gi gR ⊢
 cases r with
 | nil =>
  have L1:=zu g1
  try simp only [List.length] at L1
  have hc:iLt i (lenA es)=false:=yW e_iLt e_lenA (by omega)
  have gR:R=0:=gR
  have fz:=hc
  refine Cq ?_
  refine Aq ?_
  refine zo ?_
  refine Aq ?_
  exact fI (h:=gR.symm)
 | cons q r =>
  have L1:=zu g1
  try simp only [List.length] at L1
  have hc:iLt i (lenA es)=true:=yY e_iLt e_lenA (by omega)
  have hat:=zP e_atA hes g1 gi
  have hq:=hqn q (by rw [g1];simp)
  have hqc:=Pat.closed q
  rw [zm] at gR
  obtain ⟨qO,qA,qT,qV,qS,qN,qCo,qCa,qCv,qCf,qCk,qXk,qXn,qXt,hy⟩:=Pat.form q
  rw [hy] at hat hqc hq
  have hi2:iAdd .i64 i 1=((d++[q]).length:Int):=by rw [List.length_append];exact zJ e_iAdd gi (by omega)
  generalize q.nodeE=fq at *
  by_cases h2:fq=0
  · have w2:iNe fq 0=false:=by simp only [ee];simpa using h2
    rw [if_neg (by simpa using h2)] at gR
    have fz:=And.intro hc (And.intro hat w2)
    refine Cq ?_
    refine Cr ?_
    refine oPA hq ?_
    refine Cq ?_
    refine Aq ?_
    refine zw (d++[q],r,iAdd .i64 i 1) ⟨by simp [g1],hi2,gR⟩ (by simp) (eS [] [])
  have w2:iNe fq 0=true:=by simp only [ee];simpa using h2
  rw [if_pos h2] at gR
  have fz:=And.intro hc (And.intro hat w2)
  refine Cq ?_
  refine Cr ?_
  refine oPA hq ?_
  refine Cq ?_
  refine Aq ?_
  refine zl ?_
  refine Aq ?_
  exact fI (h:=gR.symm)
def xJ (l:List Pat):Bool:=l.all fun q=>decide (q.op<8)
theorem P_proper (nl:List Pat) (hlen:nl.length<1048577):PCall EE 142 [.isl 14 (mapE Pat.enc nl)] (bool (xJ nl)):=by
 obtain ⟨R,hR⟩:∃ R,R=xJ nl:=⟨_,rfl⟩
 rw [← hR]
 have hnc:=Pat.closedI nl
 refine zr ?_;unhygienic intros
 generalize hes:mapE Pat.enc nl=es at *
 have hel:es.length=nl.length:=by rw [← hes,zq]
 refine fB T142 [.t 2] ?_
 refine Aq ?_
 refine zf (ι:=List Pat × List Pat × Int) (fun p=>([(3,int p.2.2),(0,.isl 14 es)],[])) (fun p=>nl=p.1++p.2.1∧p.2.2=p.1.length∧R=xJ p.2.1) (fun p=>p.2.1.length) ([],nl,0) ⟨rfl,rfl,hR⟩ ?_ ?_
 · exact (eS [] [])
 rintro ⟨d,r,i⟩ ⟨g1,gi,gR⟩
 dsimp only at g1 gi gR ⊢
 cases r with
 | nil =>
  have L1:=zu g1
  try simp only [List.length] at L1
  have hc:iLt i (lenA es)=false:=yW e_iLt e_lenA (by omega)
  have gR:R=true:=gR
  have fz:=hc
  refine Cq ?_
  refine Aq ?_
  refine zo ?_
  refine Aq ?_
  exact fBo (h:=gR.symm)
 | cons q r =>
  have L1:=zu g1
  try simp only [List.length] at L1
  have hc:iLt i (lenA es)=true:=yY e_iLt e_lenA (by omega)
  have hat:=zP e_atA hes g1 gi
  have gR:R=(decide (q.op<8) && xJ r):=gR
  obtain ⟨qO,qA,qT,qV,qS,qN,qCo,qCa,qCv,qCf,qCk,qXk,qXn,qXt,hy,hyc,hqO,hqA,hqT,hqV,hqS,hqN⟩:=Pat.form2 q
  rw [hy] at hat
  rw [← hqO] at gR
  have hi2:iAdd .i64 i 1=((d++[q]).length:Int):=by rw [List.length_append];exact zJ e_iAdd gi (by omega)
  by_cases h2:qO<8
  · have w2:iLe 8 qO=false:=by simp only [ee];simp;omega
    have gR:R=xJ r:=by rw [gR];simp [h2]
    have fz:=And.intro hc (And.intro hat w2)
    refine Cq ?_
    refine Cr ?_
    refine Aq ?_
    refine zw (d++[q],r,iAdd .i64 i 1) ⟨by simp [g1],hi2,gR⟩ (by simp) (eS [] [])
  have w2:iLe 8 qO=true:=by simp only [ee];simp;omega
  have gR:R=false:=by rw [gR];simp [h2]
  have fz:=And.intro hc (And.intro hat w2)
  refine Cq ?_
  refine Cr ?_
  refine Aq ?_
  refine zl ?_
  refine Aq ?_
  exact fBo (h:=gR.symm)
theorem proper_first (l:List Pat):zm (fun q:Pat=>if 8≤q.op then 1 else 0) l=if xJ l=true then 0 else 1:=by
 induction l with
 | nil=>rfl
 | cons q r ih =>
  rw [zm]
  by_cases h:8≤q.op
  · rw [if_pos h,if_pos (by decide),if_neg (by simp [xJ];omega)]
  rw [if_neg h,if_neg (by decide),ih]
  have:xJ (q :: r)=xJ r:=by simp [xJ];omega
  rw [this]
theorem Pat.chk_red (p:Pat):p.chk=if p.chkR≠0 then p.chkR else if xJ p.nodes=false then 1 else if (zC p.nodes).2.2=true then 0 else 14:=by
 unfold Pat.chk Pat.wholeE
 rw [proper_first]
 by_cases h:p.chkR=0
 · simp only [h,ne_eq,not_true_eq_false,if_false]
   cases xJ p.nodes<;>simp
 simp [h]
theorem P_ref09_Check (p:Pat) (hs:p.Sm):PCall EE 103 [p.enc] (int p.chk):=by
 have h1:=P_ref09_CheckRest p hs
 have h2:=yG p hs
 have hcl:=Pat.closed p
 obtain ⟨R,hR⟩:∃ R,R=p.chk:=⟨_,rfl⟩
 rw [← hR]
 rw [Pat.chk_red] at hR
 have hnl:=Pat.nodes_len p
 have hs1:=hs.1
 have hnc:=Pat.closedI p.nodes
 have h3:=P_proper p.nodes (by omega)
 generalize hnn:p.nodes=nl at *
 generalize p.chkR=ck at *
 generalize xJ nl=pr at *
 obtain ⟨pO,pA,pT,pV,pS,pN,pCo,pCa,pCv,pCf,pCk,pXk,pXn,pXt,hx⟩:=Pat.form p
 rw [hx] at h1 h2 hcl ⊢
 refine zr ?_;unhygienic intros
 generalize hes:mapE Pat.enc nl=es at *
 have hel:es.length=nl.length:=by rw [← hes,zq]
 have n0:bNot false=true:=by simp only [ee];rfl
 have n1:bNot true=false:=by simp only [ee];rfl
 refine fB T103 [.t 2] ?_
 by_cases g1:ck=0
 rotate_left
 · have k1:iNe ck 0=true:=by simp only [ee];simpa using g1
   rw [if_pos g1] at hR
   refine Aq ?_
   refine oPA h1 ?_
   have fz:=k1
   refine Cq ?_
   refine Aq ?_
   exact fI (h:=hR.symm)
 have k1:iNe ck 0=false:=by simp only [ee];simpa using g1
 rw [if_neg (by simpa using g1)] at hR
 cases pr with
 | false =>
  rw [if_pos rfl] at hR
  refine Aq ?_
  refine oPA h1 ?_
  have fz:=And.intro k1 n0
  refine Cq ?_
  refine Aq ?_
  refine oPA h2 ?_
  refine Aq ?_
  refine oPA h3 ?_
  refine Cq ?_
  refine Aq ?_
  exact fI (h:=hR.symm)
 | true =>
 rw [if_neg (by decide)] at hR
 refine Aq ?_
 refine oPA h1 ?_
 have fz:=And.intro k1 n1
 refine Cq ?_
 refine Aq ?_
 refine oPA h2 ?_
 refine Aq ?_
 refine oPA h3 ?_
 refine Cq ?_
 refine Aq ?_
 refine zf (ι:=List Pat × List Pat × Int × Int × Int) (fun p=>([(7,int p.2.2.1),(4,.isl 14 es),(5,int p.2.2.2.1),(6,int p.2.2.2.2)],[])) (fun p=>nl=p.1++p.2.1∧p.2.2.1=p.1.length∧p.2.2.2.1=(zC p.1).1∧p.2.2.2.2=(zC p.1).2.1∧(zC p.1).2.2=true) (fun p=>p.2.1.length) ([],nl,0,0,0) ⟨rfl,rfl,rfl,rfl,rfl⟩ ?_ ?_
 · exact (eS [.gone] [])
 rintro ⟨d,r,i,vs,sc⟩ ⟨g1,gi,gv,gs,gok⟩
 dsimp only at g1 gi gv gs gok ⊢
 cases r with
 | nil =>
  have L1:=zu g1
  try simp only [List.length] at L1
  have hc:iLt i (lenA es)=false:=yW e_iLt e_lenA (by omega)
  rw [List.append_nil] at g1
  have gR:R=0:=by rw [hR,g1,if_pos gok]
  have fz:=hc
  refine Cq ?_
  refine Aq ?_
  refine zo ?_
  refine Aq ?_
  exact fI (h:=gR.symm)
 | cons q r =>
  have L1:=zu g1
  try simp only [List.length] at L1
  have hc:iLt i (lenA es)=true:=yY e_iLt e_lenA (by omega)
  have hat:=zP e_atA hes g1 gi
  have hb:=cfold_bd d
  have hbad:(zC (d++[q])).2.2=false→R=14:=fun h=>by
   rw [hR,if_neg]
   intro hh
   rw [g1,show d++q :: r=(d++[q])++r by simp] at hh
   rw [cfold_pre _ _ hh] at h;cases h
  have e1:(zC (d++[q])).1=_:=congrArg (fun s=>s.1) (xY d q)
  have e2:(zC (d++[q])).2.1=_:=congrArg (fun s=>s.2.1) (xY d q)
  have e3:(zC (d++[q])).2.2=_:=congrArg (fun s=>s.2.2) (xY d q)
  dsimp only [wB] at e1 e2 e3
  rw [gok,← gv,← gs] at e3
  rw [← gv] at e1
  rw [← gs] at e2
  have q1:=P_variable q
  have q2:=P_Negates q
  have q3:=P_Times q
  have hor:=scopeF_or q.op
  generalize yD q.op=sf at *
  generalize zD q.op=tf at *
  generalize decide (q.op=5∨q.op=9)=ng at *
  generalize y8 q.op=sp at *
  have hqc:=Pat.closed q
  obtain ⟨qO,qA,qT,qV,qS,qN,qCo,qCa,qCv,qCf,qCk,qXk,qXn,qXt,hy,hyc,hqO,hqA,hqT,hqV,hqS,hqN⟩:=Pat.form2 q
  rw [hy] at hat hqc q1 q2 q3
  rw [← hqV] at e3
  rw [← hqS] at e3
  have hi2:iAdd .i64 i 1=((d++[q]).length:Int):=by rw [List.length_append];exact zJ e_iAdd gi (by omega)
  have a1:iAdd .i64 vs 1=vs+1:=ww e_iAdd (by omega) (by omega)
  have a2:iAdd .i64 sc 1=sc+1:=ww e_iAdd (by omega) (by omega)
  clear hy hyc hqO hqA hqT hqV hqS hqN hR gok gv gs hb
  have fz:=And.intro hc hat
  refine Cq ?_
  refine Cr ?_
  refine oPA q1 ?_
  refine Cq ?_
  refine oC (fun c1=>?_) fun c1=>?_
  ·
   refine Cq ?_
   refine oC (fun c2=>?_) fun c2=>?_
   ·
    simp [ee] at c2
    refine Aq ?_
    refine zl ?_
    refine Aq ?_
    exact fI (h:=(Eq.symm (hbad (by clear ee hX;grind))))
   simp [ee] at c2
   refine Cq ?_
   refine oPA q2 ?_
   refine Cq ?_
   refine zj rfl rfl (fun c3=>?_) (fun c3=>?_)
   ·
    refine Cr ?_
    refine Cr ?_
    refine Cr ?_
    refine Cr ?_
    refine Cr ?_
    refine Cr ?_
    refine oC (fun c4=>?_) fun c4=>?_
    ·
     simp [ee] at c4
     refine Aq ?_
     refine zl ?_
     refine Aq ?_
     exact fI (h:=(Eq.symm (hbad (by clear ee hX;grind))))
    simp [ee] at c4
    refine Aq ?_
    refine zw (d++[q],r,iAdd .i64 i 1,iAdd .i64 vs 1,iAdd .i64 sc 1) ⟨by simp [g1],hi2,by clear ee hX;grind,by clear ee hX;grind,by clear ee hX;grind⟩ (by simp) (eS [] [])
   refine Cr ?_
   refine Cr ?_
   refine Cr ?_
   refine Aq ?_
   refine oPG q3 ?_
   refine Cq ?_
   refine oC (fun c5=>?_) fun c5=>?_
   ·
    refine Cq ?_
    refine oC (fun c6=>?_) fun c6=>?_
    ·
     simp [ee] at c6
     refine Aq ?_
     refine zl ?_
     refine Aq ?_
     exact fI (h:=(Eq.symm (hbad (by clear ee hX;grind))))
    simp [ee] at c6
    refine Aq ?_
    refine zw (d++[q],r,iAdd .i64 i 1,iAdd .i64 vs 1,iAdd .i64 sc 1) ⟨by simp [g1],hi2,by clear ee hX;grind,by clear ee hX;grind,by clear ee hX;grind⟩ (by simp) (eS [] [])
   refine Aq ?_
   refine zw (d++[q],r,iAdd .i64 i 1,iAdd .i64 vs 1,sc) ⟨by simp [g1],hi2,by clear ee hX;grind,by clear ee hX;grind,by clear ee hX;grind⟩ (by simp) (eS [] [])
  refine Cq ?_
  refine oPA q2 ?_
  refine Cq ?_
  refine zj rfl rfl (fun c7=>?_) (fun c7=>?_)
  ·
   refine Cr ?_
   refine Cr ?_
   refine Cr ?_
   refine Cr ?_
   refine Cr ?_
   refine Cr ?_
   refine oC (fun c8=>?_) fun c8=>?_
   ·
    simp [ee] at c8
    refine Aq ?_
    refine zl ?_
    refine Aq ?_
    exact fI (h:=(Eq.symm (hbad (by clear ee hX;grind))))
   simp [ee] at c8
   refine Aq ?_
   refine zw (d++[q],r,iAdd .i64 i 1,vs,iAdd .i64 sc 1) ⟨by simp [g1],hi2,by clear ee hX;grind,by clear ee hX;grind,by clear ee hX;grind⟩ (by simp) (eS [] [])
  refine Cr ?_
  refine Cr ?_
  refine Cr ?_
  refine Aq ?_
  refine oPG q3 ?_
  refine Cq ?_
  refine oC (fun c9=>?_) fun c9=>?_
  ·
   refine Cq ?_
   refine oC (fun c10=>?_) fun c10=>?_
   ·
    simp [ee] at c10
    refine Aq ?_
    refine zl ?_
    refine Aq ?_
    exact fI (h:=(Eq.symm (hbad (by clear ee hX;grind))))
   simp [ee] at c10
   refine Aq ?_
   refine zw (d++[q],r,iAdd .i64 i 1,vs,iAdd .i64 sc 1) ⟨by simp [g1],hi2,by clear ee hX;grind,by clear ee hX;grind,by clear ee hX;grind⟩ (by simp) (eS [] [])
  refine Aq ?_
  refine zw (d++[q],r,iAdd .i64 i 1,vs,sc) ⟨by simp [g1],hi2,by clear ee hX;grind,by clear ee hX;grind,by clear ee hX;grind⟩ (by simp) (eS [] [])
noncomputable def Pat.nVars (p:Pat):Int:=if p.chk=0 then (zC p.nodes).1 else 0
noncomputable def Pat.nScs (p:Pat):Int:=if p.chk=0 then (zC p.nodes).2.1 else 0
theorem P_pattern_Count (p:Pat) (hs:p.Sm):PCall EE 53 [p.enc] (.tup [int p.nVars,int p.nScs,int p.chk]):=by
 have h1:=P_pattern_Check p hs
 have h2:=fun h:p.chk=0=>P_count p hs fun q hq=>nodeE_op ((we (vm h).1).2.1 q hq)
 have hcl:=Pat.closed p
 obtain ⟨A,hA⟩:∃ R,R=p.nVars:=⟨_,rfl⟩
 obtain ⟨B,hB⟩:∃ R,R=p.nScs:=⟨_,rfl⟩
 rw [← hA,← hB]
 unfold Pat.nVars at hA
 unfold Pat.nScs at hB
 generalize p.chk=ck at *
 generalize (zC p.nodes).1=c1 at *
 generalize (zC p.nodes).2.1=c2 at *
 generalize (zC p.nodes).2.2=c3 at *
 obtain ⟨pO,pA,pT,pV,pS,pN,pCo,pCa,pCv,pCf,pCk,pXk,pXn,pXt,hx⟩:=Pat.form p
 rw [hx] at h1 h2 hcl ⊢
 refine zr ?_;unhygienic intros
 refine fB T53 [.t 2,.t 3,.t 4] ?_
 by_cases g1:ck=0
 · have k1:iNe ck 0=false:=by simp only [ee];simpa using g1
   have h2:=h2 g1
   rw [if_pos g1] at hA hB
   rw [hA,hB,g1]
   rw [g1] at h1 k1
   refine Aq ?_
   refine oPA h1 ?_
   have fz:=k1
   refine Cq ?_
   refine Aq ?_
   refine oPA h2 ?_
   refine Aq ?_
   exact fE [.gone]
 have k1:iNe ck 0=true:=by simp only [ee];simpa using g1
 rw [if_neg g1] at hA hB
 rw [hA,hB]
 refine Aq ?_
 refine oPA h1 ?_
 have fz:=k1
 refine Cq ?_
 refine Aq ?_
 exact fE [.gone]
theorem P_ref09_Count (p:Pat) (hs:p.Sm):PCall EE 59 [p.enc] (.tup [int p.nVars,int p.nScs,int p.chk]):=by
 have h1:=P_ref09_Check p hs
 have h2:=yG p hs
 have hcl:=Pat.closed p
 obtain ⟨A,hA⟩:∃ R,R=p.nVars:=⟨_,rfl⟩
 obtain ⟨B,hB⟩:∃ R,R=p.nScs:=⟨_,rfl⟩
 rw [← hA,← hB]
 unfold Pat.nVars at hA
 unfold Pat.nScs at hB
 have hnl:=Pat.nodes_len p
 have hs1:=hs.1
 have hnc:=Pat.closedI p.nodes
 generalize hnn:p.nodes=nl at *
 generalize p.chk=ck at *
 obtain ⟨pO,pA,pT,pV,pS,pN,pCo,pCa,pCv,pCf,pCk,pXk,pXn,pXt,hx⟩:=Pat.form p
 rw [hx] at h1 h2 hcl ⊢
 refine zr ?_;unhygienic intros
 generalize hes:mapE Pat.enc nl=es at *
 have hel:es.length=nl.length:=by rw [← hes,zq]
 refine fB T59 [.t 2,.t 3,.t 4] ?_
 by_cases g1:ck=0
 rotate_left
 · have k1:iNe ck 0=true:=by simp only [ee];simpa using g1
   rw [if_neg g1] at hA hB
   rw [hA,hB]
   refine Aq ?_
   refine oPA h1 ?_
   have fz:=k1
   refine Cq ?_
   refine Aq ?_
   exact fE [.gone]
 have k1:iNe ck 0=false:=by simp only [ee];simpa using g1
 rw [if_pos g1] at hA hB
 rw [g1] at h1 k1 ⊢
 refine Aq ?_
 refine oPA h1 ?_
 have fz:=k1
 refine Cq ?_
 refine Aq ?_
 refine oPA h2 ?_
 refine Aq ?_
 refine zf (ι:=List Pat × List Pat × Int × Int × Int) (fun p=>([(9,int p.2.2.1),(8,.isl 14 es),(6,int p.2.2.2.1),(7,int p.2.2.2.2)],[])) (fun p=>nl=p.1++p.2.1∧p.2.2.1=p.1.length∧p.2.2.2.1=(zC p.1).1∧p.2.2.2.2=(zC p.1).2.1) (fun p=>p.2.1.length) ([],nl,0,0,0) ⟨rfl,rfl,rfl,rfl⟩ ?_ ?_
 · exact (eS [.gone] [])
 rintro ⟨d,r,i,vs,sc⟩ ⟨g1,gi,gv,gs⟩
 dsimp only at g1 gi gv gs ⊢
 cases r with
 | nil =>
  have L1:=zu g1
  try simp only [List.length] at L1
  have hc:iLt i (lenA es)=false:=yW e_iLt e_lenA (by omega)
  rw [List.append_nil] at g1
  rw [hA,hB,g1,← gv,← gs]
  have fz:=hc
  refine Cq ?_
  refine Aq ?_
  refine zo ?_
  refine Aq ?_
  exact fE []
 | cons q r =>
  have L1:=zu g1
  try simp only [List.length] at L1
  have hc:iLt i (lenA es)=true:=yY e_iLt e_lenA (by omega)
  have hat:=zP e_atA hes g1 gi
  have hb:=cfold_bd d
  have e1:(zC (d++[q])).1=_:=congrArg (fun s=>s.1) (xY d q)
  have e2:(zC (d++[q])).2.1=_:=congrArg (fun s=>s.2.1) (xY d q)
  dsimp only [wB] at e1 e2
  rw [← gv] at e1
  rw [← gs] at e2
  have q1:=P_variable q
  have q2:=P_Negates q
  have q3:=P_Times q
  have hor:=scopeF_or q.op
  generalize yD q.op=sf at *
  generalize zD q.op=tf at *
  generalize decide (q.op=5∨q.op=9)=ng at *
  generalize y8 q.op=sp at *
  have hqc:=Pat.closed q
  obtain ⟨qO,qA,qT,qV,qS,qN,qCo,qCa,qCv,qCf,qCk,qXk,qXn,qXt,hy,hyc,hqO,hqA,hqT,hqV,hqS,hqN⟩:=Pat.form2 q
  rw [hy] at hat hqc q1 q2 q3
  have hi2:iAdd .i64 i 1=((d++[q]).length:Int):=by rw [List.length_append];exact zJ e_iAdd gi (by omega)
  have a1:iAdd .i64 vs 1=vs+1:=ww e_iAdd (by omega) (by omega)
  have a2:iAdd .i64 sc 1=sc+1:=ww e_iAdd (by omega) (by omega)
  clear hy hyc hqO hqA hqT hqV hqS hqN gv gs hb
  have fz:=And.intro hc hat
  refine Cq ?_
  refine Cr ?_
  refine oPA q1 ?_
  refine Cq ?_
  refine oC (fun c1=>?_) fun c1=>?_
  ·
   refine Cq ?_
   refine oPA q2 ?_
   refine Cq ?_
   refine zj rfl rfl (fun c2=>?_) (fun c2=>?_)
   ·
    refine Aq ?_
    refine zw (d++[q],r,iAdd .i64 i 1,iAdd .i64 vs 1,iAdd .i64 sc 1) ⟨by simp [g1],hi2,by clear ee hX;grind,by clear ee hX;grind⟩ (by simp) (eS [] [])
   refine Cr ?_
   refine Cr ?_
   refine Cr ?_
   refine Aq ?_
   refine oPG q3 ?_
   refine Cq ?_
   refine oC (fun c3=>?_) fun c3=>?_
   ·
    refine Aq ?_
    refine zw (d++[q],r,iAdd .i64 i 1,iAdd .i64 vs 1,iAdd .i64 sc 1) ⟨by simp [g1],hi2,by clear ee hX;grind,by clear ee hX;grind⟩ (by simp) (eS [] [])
   refine Aq ?_
   refine zw (d++[q],r,iAdd .i64 i 1,iAdd .i64 vs 1,sc) ⟨by simp [g1],hi2,by clear ee hX;grind,by clear ee hX;grind⟩ (by simp) (eS [] [])
  refine Cq ?_
  refine oPA q2 ?_
  refine Cq ?_
  refine zj rfl rfl (fun c4=>?_) (fun c4=>?_)
  ·
   refine Aq ?_
   refine zw (d++[q],r,iAdd .i64 i 1,vs,iAdd .i64 sc 1) ⟨by simp [g1],hi2,by clear ee hX;grind,by clear ee hX;grind⟩ (by simp) (eS [] [])
  refine Cr ?_
  refine Cr ?_
  refine Cr ?_
  refine Aq ?_
  refine oPG q3 ?_
  refine Cq ?_
  refine oC (fun c5=>?_) fun c5=>?_
  ·
   refine Aq ?_
   refine zw (d++[q],r,iAdd .i64 i 1,vs,iAdd .i64 sc 1) ⟨by simp [g1],hi2,by clear ee hX;grind,by clear ee hX;grind⟩ (by simp) (eS [] [])
  refine Aq ?_
  refine zw (d++[q],r,iAdd .i64 i 1,vs,sc) ⟨by simp [g1],hi2,by clear ee hX;grind,by clear ee hX;grind⟩ (by simp) (eS [] [])
def vV (ts:List Sch):List Bs→List Vr→Int
 | _,[]=>0
 | seen,v :: r=>if nmE v.nm≠0 then nmE v.nm else if v.nm∈seen then 7 else if tyB ts v=false then 6 else vV ts (seen++[v.nm]) r
def wl (ts:List Sch) (vs:List Vr):Int:=if 16<vs.length then 5 else vV ts [] vs
def wm (ts:List Sch) (vs:List Vr):Int:=if z7 ts≠0 then z7 ts else wl ts vs
theorem P_variables (ts:List Sch) (vs:List Vr) (hts:xW ts) (hvs:vs.length<1048577) (hvn:∀ v∈vs,v.nm.length<1048577):PCall EL 97 [.isl 2 (mapE Sch.enc ts),.isl 2 (mapE Vr.enc vs)] (int (wl ts vs)):=by
 have kts:=Sch.closedI ts
 have kvs:=Vr.closedI vs
 have htl:=hts.len
 obtain ⟨R,hR⟩:∃ R,R=wl ts vs:=⟨_,rfl⟩
 rw [← hR]
 rw [wl] at hR
 have hel:(mapE Sch.enc ts).length=ts.length:=zq ..
 have hev:(mapE Vr.enc vs).length=vs.length:=zq ..
 generalize mapE Sch.enc ts=ets at *
 generalize hes:mapE Vr.enc vs=evs at *
 refine zr ?_;unhygienic intros
 refine fB T97 [.t 4] ?_
 by_cases h16:16<vs.length
 · have k16:iLt 16 (lenA evs)=true:=by simp only [ee];simp;omega
   rw [hR,if_pos h16]
   have fz:=k16
   refine Cq ?_
   refine Aq ?_
   exact fV
 have k16:iLt 16 (lenA evs)=false:=by simp only [ee];simp;omega
 rw [if_neg h16] at hR
 have fz:=k16
 refine Cq ?_
 refine Cr ?_
 refine Aq ?_
 refine zf (ι:=List Vr × List Vr × Int × List (AV × AV)) (fun p=>([(15,int p.2.2.1),(14,int (lenA evs)),(13,.isl 2 evs),(5,.amap 0),(0,.isl 2 ets)],[.amap p.2.2.2])) (fun p=>vs=p.1++p.2.1∧p.2.2.1=p.1.length∧p.2.2.2=ents (p.1.map Vr.nm)∧R=vV ts (p.1.map Vr.nm) p.2.1) (fun p=>p.2.1.length) ([],vs,0,[]) ⟨rfl,rfl,rfl,hR⟩ ?_ ?_
 · have kcM:y5 []=true:=rfl
   exact (eS [.to 0] [some 0])
 rintro ⟨d,r,i,m⟩ ⟨g1,gi,gm,gc⟩
 dsimp only at g1 gi gm gc ⊢
 cases r with
 | nil =>
  have L1:=zu g1
  try simp only [List.length] at L1
  have hc:iLt i (lenA evs)=false:=yW e_iLt e_lenA (by omega)
  rw [gc,vV]
  have fz:=hc
  refine Cq ?_
  refine Aq ?_
  refine zo ?_
  refine Aq ?_
  exact fV
 | cons v r =>
  have L1:=zu g1
  try simp only [List.length] at L1
  have hc:iLt i (lenA evs)=true:=yY e_iLt e_lenA (by omega)
  have hat:=zP e_atA hes g1 gi
  rw [Vr.enc_eq] at hat
  have hi2:iAdd .i64 i 1=((d++[v]).length:Int):=by rw [List.length_append];exact zJ e_iAdd gi (by omega)
  have pn:=P_lxName v.nm (hvn v (by rw [g1];simp))
  have gc2:vV ts (d.map Vr.nm++[v.nm]) r=vV ts ((d++[v]).map Vr.nm) r:=by simp
  rw [vV,gc2] at gc
  have kokL:mOkL true m (str (ba v.nm))=true:=by rw [gm];exact ut _ _
  have kok:mOk true m (str (ba v.nm))=true:=by simp only [ee];rw [gm];exact ut _ _
  have kget:mGet true m (str (ba v.nm)) (bool false)=bool (decide (v.nm∈d.map Vr.nm)):=by simp only [ee];rw [gm];exact uh _ _
  have kput:v.nm∉d.map Vr.nm→mPut true m (str (ba v.nm)) (bool true)=ents ((d++[v]).map Vr.nm):=fun h=>by simp only [ee];rw [gm,ui _ _ h];simp
  have htB:tyB ts v=decide (0≤v.ty∧v.ty<(ts.length:Int)):=rfl
  rw [htB] at gc
  clear hR htB hvn gc2
  generalize v.ty=ty at *
  generalize nmE v.nm=ne at *
  generalize hin:decide (v.nm∈d.map Vr.nm)=bi at *
  generalize ba v.nm=nm at *
  by_cases h1:ne=0
  rotate_left
  · have q0:iNe ne 0=true:=by simp only [ee];simpa using h1
    rw [if_pos h1] at gc
    rw [gc]
    clear kput kokL kget kok
    have fz:=And.intro hc (And.intro hat q0)
    refine Cq ?_
    refine Cr ?_
    refine oPA pn ?_
    refine Cq ?_
    refine Aq ?_
    refine zl ?_
    refine Aq ?_
    exact fV
  have q0:iNe ne 0=false:=by simp only [ee];simpa using h1
  rw [if_neg (by omega)] at gc
  cases bi with
  | true =>
   rw [if_pos (of_decide_eq_true hin)] at gc
   rw [gc]
   clear kput kokL
   have fz:=And.intro hc (And.intro hat (And.intro q0 (And.intro kget kok)))
   refine Cq ?_
   refine Cr ?_
   refine oPA pn ?_
   refine Cq ?_
   refine Cr ?_
   refine Aq ?_
   refine zl ?_
   refine Aq ?_
   exact fV
  | false =>
  rw [if_neg (of_decide_eq_false hin)] at gc
  have kp:=kput (of_decide_eq_false hin)
  clear kput
  have kcM:y5 (mPut true m (str nm) (bool true))=true:=by rw [kp];exact uY _
  by_cases n1:ty<0
  · have q1:iLt ty 0=true:=by simp only [ee];simpa using n1
    rw [if_pos (by simp;omega)] at gc
    rw [gc]
    have fz:=And.intro hc (And.intro hat (And.intro q0 (And.intro kget (And.intro kok q1))))
    refine Cq ?_
    refine Cr ?_
    refine oPA pn ?_
    refine Cq ?_
    refine Cr ?_
    refine Cr ?_
    refine oC (fun c1=>?_) fun c1=>?_
    ·
     simp [ee] at c1
     refine Aq ?_
     refine zl ?_
     refine Aq ?_
     exact fV
    simp [ee] at c1
  have q1:iLt ty 0=false:=by simp only [ee];simpa using n1
  by_cases n2:(ts.length:Int)≤ty
  · have q2:iLe (lenA ets) ty=true:=by simp only [ee];simp;omega
    rw [if_pos (by simp;omega)] at gc
    rw [gc]
    have fz:=And.intro hc (And.intro hat (And.intro q0 (And.intro kget (And.intro kok (And.intro q1 q2)))))
    refine Cq ?_
    refine Cr ?_
    refine oPA pn ?_
    refine Cq ?_
    refine Cr ?_
    refine Cr ?_
    refine oC (fun c1=>?_) fun c1=>?_
    ·
     simp [ee] at c1
     refine Aq ?_
     refine zl ?_
     refine Aq ?_
     exact fV
    simp [ee] at c1
  have q2:iLe (lenA ets) ty=false:=by simp only [ee];simp;omega
  rw [if_neg (by simp;omega)] at gc
  have fz:=And.intro hc (And.intro hat (And.intro q0 (And.intro kget (And.intro kok (And.intro q1 q2)))))
  refine Cq ?_
  refine Cr ?_
  refine oPA pn ?_
  refine Cq ?_
  refine Cr ?_
  refine Cr ?_
  refine oC (fun c1=>?_) fun c1=>?_
  ·
   simp [ee] at c1
  simp [ee] at c1
  refine Aq ?_
  refine zw (d++[v],r,iAdd .i64 i 1,mPut true m (str nm) (bool true)) ⟨by simp [g1],hi2,kp,gc⟩ (by simp) (eS [.to 0,.gone] [some 0])
theorem P_refvariables (ts:List Sch) (vs:List Vr) (hts:xW ts) (hvs:vs.length<1048577) (hvn:∀ v∈vs,v.nm.length<1048577):PCall EE 58 [.isl 2 (mapE Sch.enc ts),.isl 2 (mapE Vr.enc vs)] (int (wm ts vs)):=by
 have p1:=P_refCheckAll ts (by have:=hts.len;omega) hts.sh
 have kts:=Sch.closedI ts
 have kvs:=Vr.closedI vs
 have htl:=hts.len
 obtain ⟨R,hR⟩:∃ R,R=wm ts vs:=⟨_,rfl⟩
 rw [← hR]
 rw [wm,wl] at hR
 have hel:(mapE Sch.enc ts).length=ts.length:=zq ..
 have hev:(mapE Vr.enc vs).length=vs.length:=zq ..
 generalize mapE Sch.enc ts=ets at *
 generalize hes:mapE Vr.enc vs=evs at *
 obtain ⟨ce,hce⟩:∃ z,z=z7 ts:=⟨_,rfl⟩
 rw [← hce] at p1 hR
 clear hce
 refine zr ?_;unhygienic intros
 have n0:iNe 0 0=false:=by simp only [ee];rfl
 refine fB T58 [.t 4] ?_
 by_cases h1:ce=0
 rotate_left
 · have q1:iNe ce 0=true:=by simp only [ee];simpa using h1
   rw [hR,if_pos h1]
   refine Aq ?_
   refine oPA p1 ?_
   have fz:=q1
   refine Cq ?_
   refine Aq ?_
   exact fV
 rw [if_neg (by omega)] at hR
 subst h1
 by_cases h16:16<vs.length
 · have k16:iLt 16 (lenA evs)=true:=by simp only [ee];simp;omega
   rw [hR,if_pos h16]
   refine Aq ?_
   refine oPA p1 ?_
   have fz:=And.intro n0 k16
   refine Cq ?_
   refine Cr ?_
   refine Aq ?_
   exact fV
 have k16:iLt 16 (lenA evs)=false:=by simp only [ee];simp;omega
 rw [if_neg h16] at hR
 refine Aq ?_
 refine oPA p1 ?_
 have fz:=n0
 refine Cq ?_
 have fz:=k16
 refine Cr ?_
 refine Cr ?_
 refine Aq ?_
 refine zf (ι:=List Vr × List Vr × Int) (fun p=>([(6,int p.2.2),(1,.isl 2 evs),(0,.isl 2 ets)],[])) (fun p=>vs=p.1++p.2.1∧p.2.2=p.1.length∧R=vV ts (p.1.map Vr.nm) p.2.1) (fun p=>p.2.1.length) ([],vs,0) ⟨rfl,rfl,hR⟩ ?_ ?_
 · exact (eS [] [])
 rintro ⟨d,r,i⟩ ⟨g1,gi,gc⟩
 dsimp only at g1 gi gc ⊢
 cases r with
 | nil =>
  have L1:=zu g1
  try simp only [List.length] at L1
  have hc:iLt i (lenA evs)=false:=yW e_iLt e_lenA (by omega)
  rw [gc,vV]
  have fz:=hc
  refine Cq ?_
  refine Aq ?_
  refine zo ?_
  refine Aq ?_
  exact fV
 | cons v r =>
  have L1:=zu g1
  try simp only [List.length] at L1
  have hc:iLt i (lenA evs)=true:=yY e_iLt e_lenA (by omega)
  have hat:=zP e_atA hes g1 gi
  rw [Vr.enc_eq] at hat
  have hi2:iAdd .i64 i 1=((d++[v]).length:Int):=by rw [List.length_append];exact zJ e_iAdd gi (by omega)
  have pn:=P_r6Name v.nm (hvn v (by rw [g1];simp))
  have gc2:vV ts (d.map Vr.nm++[v.nm]) r=vV ts ((d++[v]).map Vr.nm) r:=by simp
  rw [vV,gc2] at gc
  have htB:tyB ts v=decide (0≤v.ty∧v.ty<(ts.length:Int)):=rfl
  rw [htB] at gc
  have heq:∀ x:Vr,sEq (ba x.nm) (ba v.nm)=decide (x.nm=v.nm):=fun x=>by
   simp only [ee];rw [wV,wV,Bool.eq_iff_iff];simp
  clear hR htB hvn gc2
  generalize v.ty=ty at *
  generalize nmE v.nm=ne at *
  generalize hbn:ba v.nm=nm at *
  by_cases h1:ne=0
  rotate_left
  · have q0:iNe ne 0=true:=by simp only [ee];simpa using h1
    rw [if_pos h1] at gc
    rw [gc]
    clear heq
    have fz:=And.intro hc (And.intro hat q0)
    refine Cq ?_
    refine Cr ?_
    refine oPA pn ?_
    refine Cq ?_
    refine Aq ?_
    refine zl ?_
    refine Aq ?_
    exact fV
  have q0:iNe ne 0=false:=by simp only [ee];simpa using h1
  rw [if_neg (by omega)] at gc
  have fz:=And.intro hc (And.intro hat q0)
  refine Cq ?_
  refine Cr ?_
  refine oPA pn ?_
  refine Cq ?_
  have fz:=And.intro hc hat
  refine Cr ?_
  refine Aq ?_
  refine zf (ι:=List Vr × List Vr × Int) (fun p=>([(8,int p.2.2),(6,int i),(1,.isl 2 evs),(0,.isl 2 ets)],[])) (fun p=>d=p.1++p.2.1∧p.2.2=p.1.length∧v.nm∉p.1.map Vr.nm) (fun p=>p.2.1.length) ([],d,0) ⟨rfl,rfl,by simp⟩ ?_ ?_
  · exact (eS [] [])
  rintro ⟨d2,r2,j⟩ ⟨g2,gj,gn⟩
  dsimp only at g2 gj gn ⊢
  cases r2 with
  | nil =>
   rw [List.append_nil] at g2
   have kj:iLt j i=false:=by simp only [ee];simp;rw [gj,gi,g2];omega
   rw [← g2] at gn
   rw [if_neg gn] at gc
   clear heq
   by_cases n1:ty<0
   · have q1:iLt ty 0=true:=by simp only [ee];simpa using n1
     rw [if_pos (by simp;omega)] at gc
     rw [gc]
     have fz:=And.intro hc (And.intro hat (And.intro kj q1))
     refine Cq ?_
     refine Aq ?_
     refine zo ?_
     refine Cq ?_
     refine oC (fun c1=>?_) fun c1=>?_
     ·
      simp [ee] at c1
      refine Aq ?_
      refine zl ?_
      refine Aq ?_
      exact fV
     simp [ee] at c1
   have q1:iLt ty 0=false:=by simp only [ee];simpa using n1
   by_cases n2:(ts.length:Int)≤ty
   · have q2:iLe (lenA ets) ty=true:=by simp only [ee];simp;omega
     rw [if_pos (by simp;omega)] at gc
     rw [gc]
     have fz:=And.intro hc (And.intro hat (And.intro kj (And.intro q1 q2)))
     refine Cq ?_
     refine Aq ?_
     refine zo ?_
     refine Cq ?_
     refine oC (fun c1=>?_) fun c1=>?_
     ·
      simp [ee] at c1
      refine Aq ?_
      refine zl ?_
      refine Aq ?_
      exact fV
     simp [ee] at c1
   have q2:iLe (lenA ets) ty=false:=by simp only [ee];simp;omega
   rw [if_neg (by simp;omega)] at gc
   have fz:=And.intro hc (And.intro hat (And.intro kj (And.intro q1 q2)))
   refine Cq ?_
   refine Aq ?_
   refine zo ?_
   refine Cq ?_
   refine oC (fun c1=>?_) fun c1=>?_
   ·
    simp [ee] at c1
   simp [ee] at c1
   refine Aq ?_
   refine zw (d++[v],r,iAdd .i64 i 1) ⟨by simp [g1],hi2,gc⟩ (by simp) (eS [] [])
  | cons x r2 =>
   have L2:=congrArg List.length g2
   rw [List.length_append,List.length_cons] at L2
   have kj:iLt j i=true:=by simp only [ee];simp;rw [gj,gi];omega
   have g3:vs=d2++x :: (r2++v :: r):=by rw [g1,g2];simp
   have hatj:=zP e_atA hes g3 gj
   rw [Vr.enc_eq] at hatj
   have hj2:iAdd .i64 j 1=((d2++[x]).length:Int):=by rw [List.length_append];exact zJ e_iAdd gj (by omega)
   have hjr:0≤j∧j<lenA evs:=by simp only [ee];omega
   have hx:=heq x
   clear heq
   generalize ba x.nm=xn at *
   by_cases n1:x.nm=v.nm
   · have q1:sEq xn nm=true:=by rw [hx];simpa using n1
     rw [if_pos (by rw [g2,List.map_append,List.map_cons,n1];simp)] at gc
     rw [gc]
     have fz:=And.intro kj (And.intro hc (And.intro hat (And.intro hatj q1)))
     refine Cq ?_
     refine Cr ?_
     refine Aq ?_
     refine zl ?_
     refine Aq ?_
     refine zl ?_
     refine Aq ?_
     exact fV
   have q1:sEq xn nm=false:=by rw [hx];simpa using n1
   have gn2:v.nm∉(d2++[x]).map Vr.nm:=by rw [List.map_append];simp only [List.mem_append,List.map_cons,List.map_nil,List.mem_singleton];rintro (h | h);exact gn h;exact n1 h.symm
   have fz:=And.intro kj (And.intro hc (And.intro hat (And.intro hatj q1)))
   refine Cq ?_
   refine Cr ?_
   refine Aq ?_
   refine zw (d2++[x],r2,iAdd .i64 j 1) ⟨by simp [g2],hj2,gn2⟩ (by simp) (eS [] [])
structure Prt where
 g:FuncId
 cs:List AV
 i:Int
 e:Int
def Prt.enc (p:Prt):AV:=.agg [.fn p.g p.cs]
theorem Prt.closedL {l:List Prt} (h:∀ p∈l,AV.closedL p.cs=true):AV.closedL (mapE Prt.enc l)=true:=by
 rw [zk]
 induction l with
 | nil=>rfl
 | cons p l ih=>rw [List.map_cons,AV.closedL,ih fun q hq=>h q (by simp [hq])];simp [Prt.enc,AV.closed,AV.closedL,h p (by simp)]
def u0 (l:List Prt):Int:=match l with
 | []=>0
 | p :: r=>if p.e≠0 then p.i else u0 r
theorem prtI_skip {d r:List Prt} (h:∀ q∈d,q.e=0):u0 (d++r)=u0 r:=by
 induction d with
 | nil=>rfl
 | cons q d ih=>rw [List.cons_append,u0,if_neg (by simpa using h q (by simp)),ih fun x hx=>h x (by simp [hx])]
theorem prtE_skip {d r:List Prt} (h:∀ q∈d,q.e=0):zm Prt.e (d++r)=zm Prt.e r:=by
 rw [z8,xc h];simp
theorem enters_typecheck_whole : yr EE.P 51:=enters_of rfl (by decide) T51.2
theorem enters_typecheck_whole_1 : yr EE.P 98:=enters_of rfl (by decide) T98.2
theorem enters_typecheck_first : yr EE.P 49:=enters_of rfl (by decide) T49.2
theorem P_first (l:List Prt) (hl:l.length<1048577) (hcl:∀ p∈l,AV.closedL p.cs=true) (h:∀ d p r,l=d++p :: r→(∀ q∈d,q.e=0)→PCall EL p.g p.cs (.tup [int p.i,int p.e])) :
 PCall EL 49 [.isl 1 (mapE Prt.enc l)] (.tup [int (u0 l),int (zm Prt.e l)]):=by
 have kcl:=Prt.closedL hcl
 have kci:(AV.isl 1 (mapE Prt.enc l)).closed=true:=kcl
 obtain ⟨R1,hR1⟩:∃ R,R=u0 l:=⟨_,rfl⟩
 obtain ⟨R2,hR2⟩:∃ R,R=zm Prt.e l:=⟨_,rfl⟩
 rw [← hR1,← hR2]
 refine zr ?_;unhygienic intros
 generalize hes:mapE Prt.enc l=es at *
 have hel:es.length=l.length:=by rw [← hes,zq]
 refine fB T49 [.t 2,.t 3] ?_
 refine Aq ?_
 refine zf (ι:=List Prt × List Prt × Int) (fun p=>([(10,int p.2.2),(9,int (lenA es)),(8,.isl 1 es)],[])) (fun p=>l=p.1++p.2.1∧p.2.2=p.1.length∧∀ q∈p.1,q.e=0) (fun p=>p.2.1.length) ([],l,0) ⟨rfl,rfl,by simp⟩ ?_ ?_
 · exact (eS [] [])
 rintro ⟨d,r,i⟩ ⟨g1,gi,gd⟩
 dsimp only at g1 gi gd ⊢
 have r1:R1=u0 r:=by rw [hR1,g1,prtI_skip gd]
 have r2:R2=zm Prt.e r:=by rw [hR2,g1,prtE_skip gd]
 cases r with
 | nil =>
  have L1:=zu g1
  try simp only [List.length] at L1
  have hc:iLt i (lenA es)=false:=yW e_iLt e_lenA (by omega)
  rw [r1,r2,u0,zm]
  clear h
  have fz:=hc
  refine Cq ?_
  refine Aq ?_
  refine zo ?_
  refine Aq ?_
  exact fE []
 | cons p r =>
  have L1:=zu g1
  try simp only [List.length] at L1
  have hc:iLt i (lenA es)=true:=yY e_iLt e_lenA (by omega)
  have hat:=zP e_atA hes g1 gi
  have hp:=h d p r g1 gd
  have hpc:=hcl p (by rw [g1];simp)
  have hi2:iAdd .i64 i 1=((d++[p]).length:Int):=by rw [List.length_append];exact zJ e_iAdd gi (by omega)
  have hgood:p.e=0→∀ q∈d++[p],q.e=0:=fun e q hq=>by
   rcases List.mem_append.1 hq with hq | hq
   · exact gd q hq
   rw [List.mem_singleton.1 hq];exact e
  rw [Prt.enc] at hat
  rw [u0] at r1
  rw [zm] at r2
  clear h hcl hR1 hR2
  obtain ⟨pg,pc,pi,pe⟩:=p
  dsimp only at *
  have hfc:(AV.fn pg pc).closed=true:=by simpa [AV.closed] using hpc
  by_cases n1:pe=0
  · have q1:iNe pe 0=false:=by simp only [ee];simpa using n1
    have hgood:=hgood n1
    have fz:=And.intro hc (And.intro hat q1)
    refine Cq ?_
    refine Cr ?_
    refine xz (args:=pc) rfl rfl rfl rfl hp (by simp [hpc]) ?_
    refine Cq ?_
    refine Aq ?_
    refine zw (d++[⟨pg,pc,pi,pe⟩],r,iAdd .i64 i 1) ⟨by rw [g1];simp,hi2,hgood⟩ (by simp) (eS [.gone] [])
  have q1:iNe pe 0=true:=by simp only [ee];simpa using n1
  rw [if_pos n1] at r1 r2
  rw [r1,r2]
  have fz:=And.intro hc (And.intro hat q1)
  refine Cq ?_
  refine Cr ?_
  refine xz (args:=pc) rfl rfl rfl rfl hp (by simp [hpc]) ?_
  refine Cq ?_
  refine Aq ?_
  refine zl ?_
  refine Aq ?_
  exact fE [.gone]
theorem xG (g:FuncId) (cs:List AV) (hcs:AV.closedL cs=true):PCall EL 51 [.fn g cs] (.agg [.fn 98 [.iptr [.fn g cs]]]):=by
 have hf1:AV.closedL [.fn g cs]=true:=by simpa [AV.closed,AV.closedL] using hcs
 refine zr ?_;unhygienic intros
 refine fB T51 [.cell 2 1 true] ?_
 refine Aq ?_
 refine zR rfl rfl ?_
 exact ⟨[.icells [.fn g cs],.gone],⟨⟨_,rfl,(zp _ hf1).symm⟩,trivial,trivial⟩,.refl _⟩
theorem xw {g:FuncId} {cs:List AV} {e:Int} (hcs:AV.closedL cs=true) (h:PCall EL g cs (int e)):PCall EL 98 [.iptr [.fn g cs]] (.tup [int 0,int e]):=by
 have hfc:(AV.fn g cs).closed=true:=by simpa [AV.closed] using hcs
 refine zr ?_;unhygienic intros
 refine fB T98 [.t 1,.t 2] ?_
 refine Aq ?_
 refine xz (args:=cs) rfl rfl rfl rfl h (by simp [hcs]) ?_
 refine Aq ?_
 exact fE []
theorem P_declared1 (ts:List Sch) (hts:xW ts):PCall EL 95 [.iptr [.isl 2 (mapE Sch.enc ts)]] (int (z7 ts)):=by
 have p1:=(P_CheckAll ts (by have:=hts.len;omega) hts.sh).toL
 have kts:=Sch.closedI ts
 generalize mapE Sch.enc ts=ets at *
 generalize z7 ts=ce at *
 refine zr ?_;unhygienic intros
 refine fB T95 [.t 1] ?_
 refine Aq ?_
 refine oPA p1 ?_
 refine Aq ?_
 exact fV
theorem P_declared2 (ts:List Sch) (vs:List Vr) (hts:xW ts) (hvs:vs.length<1048577) (hvn:∀ v∈vs,v.nm.length<1048577):PCall EL 96 [.iptr [.isl 2 (mapE Sch.enc ts)],.iptr [.isl 2 (mapE Vr.enc vs)]] (int (wl ts vs)):=by
 have p1:=P_variables ts vs hts hvs hvn
 have kts:=Sch.closedI ts
 have kvs:=Vr.closedI vs
 generalize mapE Sch.enc ts=ets at *
 generalize mapE Vr.enc vs=evs at *
 generalize wl ts vs=ve at *
 refine zr ?_;unhygienic intros
 refine fB T96 [.t 2] ?_
 refine Aq ?_
 refine oPA p1 ?_
 refine Aq ?_
 exact fV
structure Qy where
 nm:Bs
 vs:List Vr
 key:List Int
 pat:Pat
 rets:List Ex
structure EncBoxQ where
 q:Qy→AV
 hq:∀ x,q x=.agg ([str (ba x.nm),.isl 2 (mapE Vr.enc x.vs),.isl 1 (mapE int x.key)]++x.pat.enc.cells++[.isl 8 (mapE Ex.enc x.rets)])
theorem encBoxQ_ne : Nonempty EncBoxQ:=⟨⟨_,fun _=>rfl⟩⟩
noncomputable def Qy.enc (x:Qy):AV:=(Classical.choice encBoxQ_ne).q x
theorem Qy.enc_eq (x:Qy):x.enc=.agg ([str (ba x.nm),.isl 2 (mapE Vr.enc x.vs),.isl 1 (mapE int x.key)]++x.pat.enc.cells++[.isl 8 (mapE Ex.enc x.rets)]):=(Classical.choice encBoxQ_ne).hq x
theorem Qy.form (x:Qy):∃ pO pA pT pV pS pN pCo pCa pCv pCf pCk pXk pXn pXt,x.enc=.agg [str (ba x.nm),.isl 2 (mapE Vr.enc x.vs),.isl 1 (mapE int x.key),int pO,.isl 14 pA,int pT,int pV,int pS,int pN,int pCo,.isl 8 pCa,int pCv,int pCf,int pCk,int pXk,int pXn,str pXt,.isl 8 (mapE Ex.enc x.rets)] ∧
 x.pat.enc=.agg [int pO,.isl 14 pA,int pT,int pV,int pS,int pN,int pCo,.isl 8 pCa,int pCv,int pCf,int pCk,int pXk,int pXn,str pXt]∧(AV.isl 14 pA).closed=true∧(AV.isl 8 pCa).closed=true:=by
 obtain ⟨pO,pA,pT,pV,pS,pN,pCo,pCa,pCv,pCf,pCk,pXk,pXn,pXt,hx⟩:=Pat.form x.pat
 have hc:=Pat.closed x.pat
 rw [hx] at hc
 refine ⟨pO,pA,pT,pV,pS,pN,pCo,pCa,pCv,pCf,pCk,pXk,pXn,pXt,?_,hx,?_,?_⟩
 · rw [Qy.enc_eq,hx];rfl
 · have:=hc;simp [AV.closed,AV.closedL] at this ⊢;exact this.1
 have:=hc;simp [AV.closed,AV.closedL] at this ⊢;exact this.2
def uU (vs:List Vr) (i:Int):Bool:=vs.any fun v=>decide (v.ty=i)
def tT (ts:List Sch) (vs:List Vr):Int→Int→List Int→Int
 | _,_,[]=>0
 | i,kd,k :: r=>if uU vs i=false then if k≠-1 then 16 else tT ts vs (i+1) kd r
  else if k<0∨((ts.getD i.toNat ⟨[],[]⟩).fs.length:Int)≤k then 16
  else if 0≤kd∧((ts.getD i.toNat ⟨[],[]⟩).fs.getD k.toNat ⟨[],0⟩).kd≠kd then 9
  else tT ts vs (i+1) ((ts.getD i.toNat ⟨[],[]⟩).fs.getD k.toNat ⟨[],0⟩).kd r
def uu (ts:List Sch) (vs:List Vr) (key:List Int):Int:=if key=[] then 0 else if key.length≠ts.length then 15 else tT ts vs 0 (-1) key
theorem P_refuses (vs:List Vr) (n:Int) (hvs:vs.length<1048577):PCall EE 65 [.isl 2 (mapE Vr.enc vs),int n] (bool (uU vs n)):=by
 have kvs:=Vr.closedI vs
 obtain ⟨R,hR⟩:∃ R,R=uU vs n:=⟨_,rfl⟩
 rw [← hR]
 rw [uU] at hR
 have hev:(mapE Vr.enc vs).length=vs.length:=zq ..
 generalize hes:mapE Vr.enc vs=evs at *
 refine zr ?_;unhygienic intros
 refine fB T65 [.t 4] ?_
 refine Aq ?_
 refine zf (ι:=List Vr × List Vr × Int) (fun p=>([(5,int p.2.2),(1,int n),(0,.isl 2 evs)],[])) (fun p=>vs=p.1++p.2.1∧p.2.2=p.1.length∧R=p.2.1.any fun v=>decide (v.ty=n)) (fun p=>p.2.1.length) ([],vs,0) ⟨rfl,rfl,hR⟩ ?_ ?_
 · exact (eS [] [])
 rintro ⟨d,r,i⟩ ⟨g1,gi,gR⟩
 dsimp only at g1 gi gR ⊢
 cases r with
 | nil =>
  have L1:=zu g1
  try simp only [List.length] at L1
  have hc:iLt i (lenA evs)=false:=yW e_iLt e_lenA (by omega)
  rw [gR,List.any_nil]
  have fz:=hc
  refine Cq ?_
  refine Aq ?_
  refine zo ?_
  refine Aq ?_
  exact fV
 | cons v r =>
  have L1:=zu g1
  try simp only [List.length] at L1
  have hc:iLt i (lenA evs)=true:=yY e_iLt e_lenA (by omega)
  have hat:=zP e_atA hes g1 gi
  rw [Vr.enc_eq] at hat
  have hi2:iAdd .i64 i 1=((d++[v]).length:Int):=by rw [List.length_append];exact zJ e_iAdd gi (by omega)
  rw [List.any_cons] at gR
  clear hR
  generalize v.ty=ty at *
  generalize ba v.nm=nm at *
  by_cases n1:ty=n
  · have q1:iEq ty n=true:=by simp only [ee];simpa using n1
    rw [gR,show (decide (ty=n) || r.any fun v=>decide (v.ty=n))=true by simp [n1]]
    have fz:=And.intro hc (And.intro hat q1)
    refine Cq ?_
    refine Cr ?_
    refine Aq ?_
    refine zl ?_
    refine Aq ?_
    exact fV
  have q1:iEq ty n=false:=by simp only [ee];simpa using n1
  have gR:R=r.any fun v=>decide (v.ty=n):=by rw [gR];simp [n1]
  have fz:=And.intro hc (And.intro hat q1)
  refine Cq ?_
  refine Cr ?_
  refine Aq ?_
  refine zw (d++[v],r,iAdd .i64 i 1) ⟨by rw [g1];simp,hi2,gR⟩ (by simp) (eS [] [])
structure Lim where
 scope:Int
 span:Int
def Lim.enc (l:Lim):AV:=.agg [int l.scope,int l.span]
def yesE : Ex:=.mk 0 [] 0 0 0 ⟨1,1,⟨#[]⟩⟩
def eventP (k v:Int):Pat:=.mk 0 [] k v 0 0 yesE
theorem yesE.enc_eq : yesE.enc=.agg [int 0,.isl 8 [],int 0,int 0,int 0,int 1,int 1,str ⟨#[]⟩]:=by
 rw [yesE,Ex.enc_mk,zk];rfl
theorem eventP.enc_eq (k v:Int):(eventP k v).enc=.agg [int 0,.isl 14 [],int k,int v,int 0,int 0,int 0,.isl 8 [],int 0,int 0,int 0,int 1,int 1,str ⟨#[]⟩]:=by
 rw [eventP,yesE,Pat.enc_mk,zk,zk];rfl
theorem P_Flag (b:Bool):PCall EE 82 [bool b] (.agg [int 1,int (if b then 1 else 0),str ⟨#[]⟩]):=by
 refine zr ?_;unhygienic intros
 refine fB T82 [.cell 2 3 true] ?_
 cases b with
 | true =>
  refine Aq ?_
  exact fE [.gone]
 | false =>
  refine Aq ?_
  exact fE [.gone]
theorem scE_eq {p:Pat} (h:p.chk=0):p.scE=zm yI (Pat.lf PlcS p):=by rw [Pat.scE,if_neg (fun k=>k h)]
theorem rtE_eq {p:Pat} {l:List Ex} (h:p.chk=0) (hl:l.length≤256):p.rtE l=zm (x8 p.retP) l:=by
 rw [Pat.rtE,if_neg (fun k=>k h),if_neg (by omega)]
def yQ (e:Ex):Ex:=.mk 7 [e,.mk 0 [] 0 0 0 ⟨0,1,⟨#[]⟩⟩] 0 0 0 Vl0
theorem uni_2 {a b:Int} (h:a<b):zG [a] [b]=[a,b]:=uni_ext (by simp [h]) fun n=>by simp
theorem uni_1 (a:Int):zG [] [a]=[a]:=uni_nil (by simp)
theorem bound_of {p:Pat} {l:List Int} (h:xP p.nodes=l) (hl:l.Pairwise (· < ·)):p.bound=l :=
 sorted_ext _ _ p.bound_nodup hl fun n=>by rw [Pat.bound_mem,h]
theorem yes15_sm : yesE.Sm:=by simp [Ex.Sm,yesE,Ex.cnt,Ex.cntL]
theorem yes15_chk : yesE.chk=0:=by
 have h1:yesE.cnt=1:=by simp [yesE,Ex.cnt,Ex.cntL]
 have h2:yesE.dep=1:=by simp [yesE,Ex.dep,Ex.depL]
 have h3:yesE.nodes=[yesE]:=by simp [yesE,Ex.nodes,Ex.nodesL]
 rw [Ex.chk,h1,h2,h3]
 have hz:(⟨#[]⟩:ByteArray).size=0:=rfl
 simp [hz,zm,Ex.nodeE,yesE,Ex.op,Ex.args,Ex.var,Ex.fld,Ex.kind,Ex.val,Ex.consE,Ex.formB,wF,wH,vU,vP,Vl.chk,Vl.sizeE]
theorem yes_fol (s:Plc):yesE.fol s=0:=by
 have h3:yesE.nodes=[yesE]:=by simp [yesE,Ex.nodes,Ex.nodesL]
 rw [Ex.fol,h3];simp [zm,uB,yesE,Ex.op]
end Go.Am
end
