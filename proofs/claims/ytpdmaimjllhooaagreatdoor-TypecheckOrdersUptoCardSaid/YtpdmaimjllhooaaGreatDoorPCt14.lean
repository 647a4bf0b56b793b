/- Contracts of the program's functions. -/
import Derived.Test.YtpdmaimjllhooaaGreatDoorProg
import Derived.Test.YtpdmaimjllhooaaGreatDoorPCt11
import Derived.Test.YtpdmaimjllhooaaGreatDoorPCt10
section
set_option maxHeartbeats 16000000
set_option maxRecDepth 100000
namespace Go.Am
open Go.Proofs
theorem C_scwalk2 {S:Type} (vf:FuncId) (o3 o4 o5:S→AObj) (V:Int→Pat × Plc→S→S × Bool) (hen:yz EE.P vf)
 (c3:∀ s σ,(o3 s).sub σ=o3 s) (c4:∀ s σ,(o4 s).sub σ=o4 s) (c5:∀ s σ,(o5 s).sub σ=o5 s)
 (hV:∀ (i:Int) (x:Pat × Plc) (s:S),x.1.Sm→x.1.wf→x.2.ok→0≤i→ACall EE vf ([int i,x.1.enc,x.2.enc]++[.ptr 3 0,.ptr 4 0]) (hpV vf [.ptr 3 0,.ptr 4 0] o3 o4 o5 i s) (fun v H'=>v=bool (V i x s).2∧H'=hpV vf [.ptr 3 0,.ptr 4 0] o3 o4 o5 i (V i x s).1))
 (p:Pat) (hs:p.Sm) (hw:p.wf) (hn:p.cnt<1073741824) (s:S) :
 ACall EE 99 [p.enc,.fn vf [.ptr 0 0,.ptr 1 0]] [o3 s,o4 s,o5 s] (fun _ H'=>H'=[o3 (x8 V (-1) s (Pat.lf PlcS p)).1,o4 (x8 V (-1) s (Pat.lf PlcS p)).1,o5 (x8 V (-1) s (Pat.lf PlcS p)).1]):=by
 have hC:=C_each vf [.ptr 3 0,.ptr 4 0] o3 o4 o5 V hen (fun s σ _=>c3 s σ) (fun s σ _=>c4 s σ) (fun s σ _=>c5 s σ)
  (fun σ h=>by simp only [AV.subL,AV.sub,h 3 (by decide),h 4 (by decide)]) hV p hs hw PlcS PlcS_ok (-1) s (by omega) (by omega)
 rw [PlcS_enc] at hC
 unfold hpV at hC
 obtain ⟨⟨s1,i1,b1⟩,hZ⟩:∃ Z:S × Int × Bool,x8 V (-1) s (Pat.lf PlcS p)=Z:=⟨_,rfl⟩
 rw [hZ] at hC ⊢
 dsimp only at hC ⊢
 have hpc:=Pat.closed p
 have h0c:(AV.agg [.isl 1 [],.isl 1 [],int (-1)]).closed=true:=rfl
 obtain ⟨pO,pA,pT,pV,pS,pN,pCo,pCa,pCv,pCf,pCk,pXk,pXn,pXt,hx⟩:=Pat.form p
 rw [hx] at hC hpc ⊢
 clear hx
 refine zt ?_;unhygienic intros
 refine rB T99 [] ?_
 show Holds EE 11 3 _ _ _ _ _
 refine goA 0 ?_
 refine yD (F':=[(9,.agg [.isl 1 [],.isl 1 [],int (-1)]),(8,.agg [int pO,.isl 14 pA,int pT,int pV,int pS,int pN,int pCo,.isl 8 pCa,int pCv,int pCf,int pCk,int pXk,int pXn,str pXt]),(7,.fn 139 [.ptr 4 0,.ptr 3 0,.ptr 5 0])]) (H':=[o3 s,o4 s,o5 s,.cells [.fn vf [.ptr 0 0,.ptr 1 0]],.cells [int (-1)],.cells [.fn 139 [.ptr 4 0,.ptr 3 0,.ptr 5 0]]]) ?_ ?_
 · exact (yM [.to 0,.to 1,.to 2,.gone,.to 3,.to 4,.to 5] [some 0,some 1,some 2,some 4,some 5,some 6] ⟨rfl,rfl,rfl,trivial⟩ (by simp) (by simp) ⟨⟨by simp,rfl⟩,⟨by simp,rfl⟩,⟨by simp,rfl⟩,trivial,⟨by simp,rfl⟩,⟨by simp,rfl⟩,⟨by simp,rfl⟩,trivial⟩ ⟨.same 0 _ _ rfl rfl rfl (c3 _ _),.same 1 _ _ rfl rfl rfl (c4 _ _),.same 2 _ _ rfl rfl rfl (c5 _ _),.same 4 _ _ rfl rfl rfl rfl,.same 5 _ _ rfl rfl rfl rfl,.same 6 _ _ rfl rfl rfl rfl,trivial⟩ ⟨.agg' ⟨.nilI _,.nilI _,.refl _,trivial⟩,.cl hpc,.refl _,trivial⟩)
 refine v8 [4,3,5,0,1,2] rfl rfl rfl enters_scope_walk_1 hC (by decide) (by simp) ?_ ?_ ?_
 · show _=[AObj.sub _ _,AObj.sub _ _,AObj.sub _ _,AObj.sub _ (o3 s),AObj.sub _ (o4 s),AObj.sub _ (o5 s)]
   rw [c3,c4,c5];rfl
 · show _=[AV.sub (yY [4,3,5,0,1,2]) (.agg [int pO,.isl 14 pA,int pT,int pV,int pS,int pN,int pCo,.isl 8 pCa,int pCv,int pCf,int pCk,int pXk,int pXn,str pXt]),AV.sub (yY [4,3,5,0,1,2]) (.agg [.isl 1 [],.isl 1 [],int (-1)]),AV.sub (yY [4,3,5,0,1,2]) (.ptr 4 0),AV.sub (yY [4,3,5,0,1,2]) (.ptr 3 0),AV.sub (yY [4,3,5,0,1,2]) (.ptr 5 0)]
   rw [zY _ _ _ (Nat.le_refl _) hpc,zY _ _ _ (Nat.le_refl _) h0c];rfl
 rintro v0 H' ⟨rfl,rfl⟩ -
 have hm:∀ (a0 a1 a2 a3 a4 a5:AObj),yR [a0,a1,a2,a3,a4,a5] [4,3,5,0,1,2] [.cells [int i1],.cells [.fn vf [.ptr 3 0,.ptr 4 0]],.cells [.fn 139 [.ptr 0 0,.ptr 1 0,.ptr 2 0]],o3 s1,o4 s1,o5 s1]=[o3 s1,o4 s1,o5 s1,.cells [.fn vf [.ptr 0 0,.ptr 1 0]],.cells [int i1],.cells [.fn 139 [.ptr 4 0,.ptr 3 0,.ptr 5 0]]]:=fun _ _ _ _ _ _=>by
  show [AObj.sub _ (o3 s1),AObj.sub _ (o4 s1),AObj.sub _ (o5 s1),_,_,_]=_
  rw [c3,c4,c5];rfl
 rw [hm]
 refine Aq ?_
 refine o_norm (F2:=[]) (H2:=[o3 s1,o4 s1,o5 s1]) ?_ rfl rfl
 exact (yM [.to 0,.to 1,.to 2,.gone,.gone,.gone] [some 0,some 1,some 2] ⟨rfl,rfl,rfl,trivial⟩ (by simp) (by simp) ⟨⟨by simp,rfl⟩,⟨by simp,rfl⟩,⟨by simp,rfl⟩,trivial,trivial,trivial,trivial⟩ ⟨.same 0 _ _ rfl rfl rfl (c3 _ _),.same 1 _ _ rfl rfl rfl (c4 _ _),.same 2 _ _ rfl rfl rfl (c5 _ _),trivial⟩ trivial)
noncomputable def ckV (i:Int) (x:Pat × Plc) (s:Int × Int):(Int × Int) × Bool :=
 if wp x.1.op=true then (if x.1.cond.fol (x.1.own x.2)=0 then ((0,s.2),true) else ((x.1.cond.fol (x.1.own x.2),i),false)) else (s,true)
theorem enters_scope_Check_1 : yz EE.P 100:=enters_of rfl (by decide) T100.2
theorem C_ck1 (dc:List AV) (hdc:AV.closedL dc=true) (i:Int) (x:Pat × Plc) (s:Int × Int) (hs:x.1.Sm) (hw:x.1.wf) (hl:x.2.ok) :
 ACall EE 100 ([int i,x.1.enc,x.2.enc]++[.ptr 3 0,.ptr 4 0]) (hpV 100 [.ptr 3 0,.ptr 4 0] (fun s=>.cells [int s.1]) (fun s=>.cells [int s.2]) (fun _=>.cells dc) i s)
  (fun v H'=>v=bool (ckV i x s).2∧H'=hpV 100 [.ptr 3 0,.ptr 4 0] (fun s=>.cells [int s.1]) (fun s=>.cells [int s.2]) (fun _=>.cells dc) i (ckV i x s).1):=by
 obtain ⟨p,l⟩:=x
 obtain ⟨e0,i0⟩:=s
 dsimp only at hs hw hl ⊢
 have qo:=fun ht=>P_own p hs hw ht l hl
 have hok:=fun ht=>own_ok hw ht hl
 have qf:=fun ht=>P_follows (p.own l) (by have:=(hok ht).2.2.1;omega) (by have:=(hok ht).2.2.2;omega) p.cond hs.cond'
 obtain ⟨ho0,ho1,_,_,_⟩:=hw.self
 have hrow:=sc_row ho0 ho1
 obtain ⟨Z,hZ⟩:∃ Z,Z=ckV i (p,l) (e0,i0):=⟨_,rfl⟩
 rw [← hZ]
 unfold ckV at hZ
 dsimp only at hZ
 unfold hpV
 obtain ⟨er,eer⟩:∃ z,z=p.cond.fol (p.own l):=⟨_,rfl⟩
 rw [← eer] at hZ qf
 simp only [Plc.enc] at qo qf ⊢
 have hLU:=zq l.us
 have hLS:=zq l.si
 have hcl:=Pat.closed p
 have hcc:=Ex.closed p.cond
 obtain ⟨LU,eLU⟩:∃ z,z=mapE int l.us:=⟨_,rfl⟩
 obtain ⟨LS,eLS⟩:∃ z,z=mapE int l.si:=⟨_,rfl⟩
 obtain ⟨fb,efb⟩:∃ z,z=l.fb:=⟨_,rfl⟩
 rw [← eLU,← eLS,← efb] at qo ⊢
 rw [← eLU] at hLU
 rw [← eLS] at hLS
 have r1:=zq (p.own l).us
 have r2:=zq (p.own l).si
 have hlc:(AV.agg [.isl 1 LU,.isl 1 LS,int fb]).closed=true:=by simp [AV.closed,AV.closedL] at hLU hLS ⊢;exact ⟨hLU,hLS⟩
 obtain ⟨pO,pA,pT,pV,pS,pN,pCo,pCa,pCv,pCf,pCk,pXk,pXn,pXt,hx,hxc,hpO,hpA,hpT,hpV,hpS,hpN⟩:=Pat.form2 p
 rw [hx] at qo hcl ⊢
 rw [hxc] at qf hcc
 rw [← hpO] at hrow hZ qo ho0 ho1 qf
 have hpAI:(AV.isl 14 pA).closed=true:=by have:=hcl;simp [AV.closed,AV.closedL] at this ⊢;exact this.1
 have hpCI:(AV.isl 8 pCa).closed=true:=by have:=hcl;simp [AV.closed,AV.closedL] at this ⊢;exact this.2
 obtain ⟨A1,eA1⟩:∃ z,z=mapE int (p.own l).us:=⟨_,rfl⟩
 obtain ⟨A2,eA2⟩:∃ z,z=mapE int (p.own l).si:=⟨_,rfl⟩
 obtain ⟨f2,ef2⟩:∃ z,z=(p.own l).fb:=⟨_,rfl⟩
 rw [← eA1,← eA2,← ef2] at qo qf
 rw [← eA1] at r1
 rw [← eA2] at r2
 have hcs:(AV.agg [.isl 1 A1,.isl 1 A2,int f2]).closed=true:=by simp [AV.closed,AV.closedL] at r1 r2 ⊢;exact ⟨r1,r2⟩
 clear hx hs hw hok hxc
 refine zt ?_;unhygienic intros
 have hrw:rowA (Classical.choice wN).g pO 2=[bool (uV pO),bool (wp pO)]:=by rw [e_rowA];exact hrow
 generalize uV pO=kp at *
 obtain ⟨ts,ets⟩:∃ z,z=wp pO:=⟨_,rfl⟩
 rw [← ets] at hrw hZ qo qf
 have n0:bNot false=true:=by simp only [ee];rfl
 have n1:bNot true=false:=by simp only [ee];rfl
 refine rB T100 [.t 8] ?_
 show Holds EE 26 6 _ _ _ _ _
 cases ts with
 | false =>
  rw [if_neg (show ¬ (false=true) by decide)] at hZ
  rw [hZ]
  have fz:=And.intro hrw n0
  refine Cq ?_
  refine Aq ?_
  refine yL (F2:=[(8,bool true)]) (H2:=[.cells [int i],.cells [.fn 100 [.ptr 3 0,.ptr 4 0]],.cells [.fn 139 [.ptr 0 0,.ptr 1 0,.ptr 2 0]],.cells [int e0],.cells [int i0],.cells dc]) ?_ rfl ⟨rfl,rfl⟩
  exact (yM [.to 0,.to 1,.to 2,.to 3,.to 4,.to 5,.gone,.gone] [some 0,some 1,some 2,some 3,some 4,some 5] ⟨rfl,rfl,rfl,rfl,rfl,rfl,trivial⟩ (by simp) (by simp) ⟨⟨by simp,rfl⟩,⟨by simp,rfl⟩,⟨by simp,rfl⟩,⟨by simp,rfl⟩,⟨by simp,rfl⟩,⟨by simp,rfl⟩,trivial,trivial,trivial⟩ ⟨.same 0 _ _ rfl rfl rfl rfl,.same 1 _ _ rfl rfl rfl rfl,.same 2 _ _ rfl rfl rfl rfl,.same 3 _ _ rfl rfl rfl rfl,.same 4 _ _ rfl rfl rfl rfl,.same 5 _ _ rfl rfl rfl (congrArg AObj.cells (zx _ hdc)),trivial⟩ ⟨.refl _,trivial⟩)
 | true =>
  rw [if_pos rfl] at hZ
  have q1:=qo rfl
  have q2:=qf rfl
  have fz:=And.intro hrw n1
  refine Cq ?_
  have fz:=hrw
  refine Cr ?_
  refine zP rfl (by conv=>lhs;cbv) rfl ?_
  refine tgA ?_
  refine oPT q1 ?_
  refine oPT q2 ?_
  refine tgA ?_
  refine zH ⟨rfl,by simp [zK,zV],?_⟩
  by_cases he:er=0
  · have w1:iNe er 0=false:=by simp only [ee];simpa using he
    have w2:iEq er 0=true:=by simp only [ee];simpa using he
    rw [if_pos he] at hZ
    rw [hZ]
    subst he
    have fz:=And.intro w1 w2
    refine Cq ?_
    refine Cr ?_
    refine Aq ?_
    refine yL (F2:=[(8,bool true)]) (H2:=[.cells [int i],.cells [.fn 100 [.ptr 3 0,.ptr 4 0]],.cells [.fn 139 [.ptr 0 0,.ptr 1 0,.ptr 2 0]],.cells [int 0],.cells [int i0],.cells dc]) ?_ rfl ⟨rfl,rfl⟩
    exact (yM [.to 0,.to 1,.to 2,.to 3,.to 4,.to 5,.gone,.gone] [some 0,some 1,some 2,some 3,some 4,some 5] ⟨rfl,rfl,rfl,rfl,rfl,rfl,trivial⟩ (by simp) (by simp) ⟨⟨by simp,rfl⟩,⟨by simp,rfl⟩,⟨by simp,rfl⟩,⟨by simp,rfl⟩,⟨by simp,rfl⟩,⟨by simp,rfl⟩,trivial,trivial,trivial⟩ ⟨.same 0 _ _ rfl rfl rfl rfl,.same 1 _ _ rfl rfl rfl rfl,.same 2 _ _ rfl rfl rfl rfl,.same 3 _ _ rfl rfl rfl rfl,.same 4 _ _ rfl rfl rfl rfl,.same 5 _ _ rfl rfl rfl (congrArg AObj.cells (zx _ hdc)),trivial⟩ ⟨.refl _,trivial⟩)
  have w1:iNe er 0=true:=by simp only [ee];simpa using he
  have w2:iEq er 0=false:=by simp only [ee];simpa using he
  rw [if_neg he] at hZ
  rw [hZ]
  have fz:=And.intro w1 w2
  refine Cq ?_
  refine Cr ?_
  refine Aq ?_
  refine yL (F2:=[(8,bool false)]) (H2:=[.cells [int i],.cells [.fn 100 [.ptr 3 0,.ptr 4 0]],.cells [.fn 139 [.ptr 0 0,.ptr 1 0,.ptr 2 0]],.cells [int er],.cells [int i],.cells dc]) ?_ rfl ⟨rfl,rfl⟩
  exact (yM [.to 0,.to 1,.to 2,.to 3,.to 4,.to 5,.gone,.gone] [some 0,some 1,some 2,some 3,some 4,some 5] ⟨rfl,rfl,rfl,rfl,rfl,rfl,trivial⟩ (by simp) (by simp) ⟨⟨by simp,rfl⟩,⟨by simp,rfl⟩,⟨by simp,rfl⟩,⟨by simp,rfl⟩,⟨by simp,rfl⟩,⟨by simp,rfl⟩,trivial,trivial,trivial⟩ ⟨.same 0 _ _ rfl rfl rfl rfl,.same 1 _ _ rfl rfl rfl rfl,.same 2 _ _ rfl rfl rfl rfl,.same 3 _ _ rfl rfl rfl rfl,.same 4 _ _ rfl rfl rfl rfl,.same 5 _ _ rfl rfl rfl (congrArg AObj.cells (zx _ hdc)),trivial⟩ ⟨.refl _,trivial⟩)
theorem ckV_eq (j:Int) (x:Pat × Plc):ckV j x (0,0)=((xw x,if xw x≠0 then j else 0),decide (xw x=0)):=by
 unfold ckV xw
 by_cases ht:wp x.1.op=true
 · rw [if_pos ht,if_pos ht]
   by_cases he:x.1.cond.fol (x.1.own x.2)=0
   · rw [if_pos he,he];rfl
   rw [if_neg he,if_pos he,decide_eq_false he]
 rw [if_neg ht,if_neg ht];rfl
theorem run_ck : ∀ (L:List (Pat × Plc)) (j:Int),(x8 ckV j (0,0) L).1=(zu xw L,if zu xw L≠0 then j+1+yX xw L else 0)
 | [],j=>by
  rw [x8,zu];rfl
 | x :: r,j=>by
  by_cases h:xw x=0
  · have hv:ckV (j+1) x (0,0)=((0,0),true):=by rw [ckV_eq,h];rfl
    have e1:zu xw (x :: r)=zu xw r:=by rw [zu,if_neg (fun k=>k h)]
    rw [x8,hv,if_pos rfl,run_ck r (j+1),e1]
    by_cases h2:zu xw r=0
    · rw [if_neg (fun k=>k h2),if_neg (fun k=>k h2)]
    have e2:yX xw (x :: r)=yX xw r+1:=by rw [yX,if_neg (fun k=>k h),if_pos h2]
    rw [if_pos h2,if_pos h2,e2]
    exact congrArg (Prod.mk _) (by omega)
  have hv:ckV (j+1) x (0,0)=((xw x,j+1),false):=by rw [ckV_eq,if_pos h,decide_eq_false h]
  rw [x8,hv,if_neg (show ¬ (false=true) by decide),zu,if_pos h,yX,if_pos h,if_pos h,Int.add_zero]
theorem idx_zero {α:Type} {F:α→Int}:∀ {L:List α},zu F L=0→yX F L=0
 | [],_=>by rw [yX]
 | x :: r,h=>by
  rw [zu] at h
  rw [yX]
  by_cases hx:F x=0
  · rw [if_neg (by simpa using hx)] at h ⊢
    rw [if_neg (by simpa using h)]
  rw [if_pos hx] at h;exact absurd h hx
theorem sc_plain (p:Pat) (h:p.chk=0):(x8 ckV (-1) (0,0) (Pat.lf PlcS p)).1=(p.scE,p.scI):=by
 have e1:p.scE=zu xw (Pat.lf PlcS p):=by unfold Pat.scE;rw [if_neg (fun k=>k h)]
 have e2:p.scI=yX xw (Pat.lf PlcS p):=by unfold Pat.scI;rw [if_neg (fun k=>k h)]
 rw [run_ck,e1,e2]
 by_cases h2:zu xw (Pat.lf PlcS p)=0
 · rw [idx_zero h2,if_neg (fun k=>k h2)]
 rw [if_pos h2]
 exact congrArg (Prod.mk _) (by omega)
theorem P_scCheck (p:Pat) (hs:p.Sm):PCall EE 57 [p.enc] (.tup [int p.scI,int p.scE]):=by
 have q1:=P_pattern_Check p hs
 have hcl:=Pat.closed p
 by_cases hk:p.chk=0
 · have hw:=chk_wf hk
   have hcnt:=(chkR_zero.1 (w9 (vb hk).1).1).1
   have qw':=fun (dc:List AV) (hdc:AV.closedL dc=true)=>C_scwalk2 100 (fun s=>.cells [int s.1]) (fun s=>.cells [int s.2]) (fun _:Int × Int=>.cells dc) ckV enters_scope_Check_1 (fun _ _=>rfl) (fun _ _=>rfl) (fun _ σ=>congrArg AObj.cells (zx _ hdc)) (fun j x s h1 h2 h3 _=>C_ck1 dc hdc j x s h1 h2 h3) p hs hw (by omega) (0,0)
   rw [sc_plain p hk] at qw'
   dsimp only at qw'
   rw [hk] at q1
   generalize p.scI=ir at *
   generalize p.scE=er at *
   obtain ⟨pO,pA,pT,pV,pS,pN,pCo,pCa,pCv,pCf,pCk,pXk,pXn,pXt,hx,hxc,hpO,hpA,hpT,hpV,hpS,hpN⟩:=Pat.form2 p
   rw [hx] at qw' q1 hcl ⊢
   have hpAI:(AV.isl 14 pA).closed=true:=by have:=hcl;simp [AV.closed,AV.closedL] at this ⊢;exact this.1
   have hpCI:(AV.isl 8 pCa).closed=true:=by have:=hcl;simp [AV.closed,AV.closedL] at this ⊢;exact this.2
   have hdc:AV.closedL [int pO,.isl 14 pA,int pT,int pV,int pS,int pN,int pCo,.isl 8 pCa,int pCv,int pCf,int pCk,int pXk,int pXn,str pXt]=true:=hcl
   have qw:=qw' _ hdc
   clear hx hs hw qw'
   refine zt ?_;unhygienic intros
   have kc:iNe 0 0=false:=by simp only [ee];rfl
   refine fB T57 [.t 2,.t 3] ?_
   refine Aq ?_
   refine oPA q1 ?_
   have fz:=kc
   refine Cq ?_
   refine Aq ?_
   refine yD (F':=[(13,.fn 100 [.ptr 2 0,.ptr 1 0]),(12,.agg [int pO,.isl 14 pA,int pT,int pV,int pS,int pN,int pCo,.isl 8 pCa,int pCv,int pCf,int pCk,int pXk,int pXn,str pXt]),(5,.ptr 1 0),(6,.ptr 2 0)]) (H':=[.cells [int pO,.isl 14 pA,int pT,int pV,int pS,int pN,int pCo,.isl 8 pCa,int pCv,int pCf,int pCk,int pXk,int pXn,str pXt],.cells [int 0],.cells [int 0]]) ?_ ?_
   · exact (eS [.to 0,.to 1,.to 2] [some 0,some 1,some 2])
   refine wi [2,1,0] rfl rfl enters_scope_walk qw (by decide) (by simp) ?_ ?_ ?_
   · show _=[_,_,AObj.sub (yY [2,1,0]) (.cells [int pO,.isl 14 pA,int pT,int pV,int pS,int pN,int pCo,.isl 8 pCa,int pCv,int pCf,int pCk,int pXk,int pXn,str pXt])]
     rw [show AObj.sub (yY [2,1,0]) (.cells [int pO,.isl 14 pA,int pT,int pV,int pS,int pN,int pCo,.isl 8 pCa,int pCv,int pCf,int pCk,int pXk,int pXn,str pXt])=.cells [int pO,.isl 14 pA,int pT,int pV,int pS,int pN,int pCo,.isl 8 pCa,int pCv,int pCf,int pCk,int pXk,int pXn,str pXt] from congrArg AObj.cells (zx _ hdc)]
     rfl
   · show _=[AV.sub (yY [2,1,0]) (.agg [int pO,.isl 14 pA,int pT,int pV,int pS,int pN,int pCo,.isl 8 pCa,int pCv,int pCf,int pCk,int pXk,int pXn,str pXt]),AV.sub (yY [2,1,0]) (.fn 100 [.ptr 2 0,.ptr 1 0])]
     rw [zY _ _ _ (Nat.le_refl _) hcl];rfl
   rintro v0 H' rfl -
   have hm:∀ (a0 a1 a2:AObj),yR [a0,a1,a2] [2,1,0] [.cells [int er],.cells [int ir],.cells [int pO,.isl 14 pA,int pT,int pV,int pS,int pN,int pCo,.isl 8 pCa,int pCv,int pCf,int pCk,int pXk,int pXn,str pXt]]=[.cells [int pO,.isl 14 pA,int pT,int pV,int pS,int pN,int pCo,.isl 8 pCa,int pCv,int pCf,int pCk,int pXk,int pXn,str pXt],.cells [int ir],.cells [int er]]:=fun _ _ _=>by
    show [AObj.sub (vX [2,1,0] 3) (.cells [int pO,.isl 14 pA,int pT,int pV,int pS,int pN,int pCo,.isl 8 pCa,int pCv,int pCf,int pCk,int pXk,int pXn,str pXt]),_,_]=_
    rw [show AObj.sub (vX [2,1,0] 3) (.cells [int pO,.isl 14 pA,int pT,int pV,int pS,int pN,int pCo,.isl 8 pCa,int pCv,int pCf,int pCk,int pXk,int pXn,str pXt])=.cells [int pO,.isl 14 pA,int pT,int pV,int pS,int pN,int pCo,.isl 8 pCa,int pCv,int pCf,int pCk,int pXk,int pXn,str pXt] from congrArg AObj.cells (zx _ hdc)]
    rfl
   rw [hm]
   refine Aq ?_
   exact fE [.gone,.gone,.gone]
 have hE:p.scE=p.chk:=by unfold Pat.scE;rw [if_pos hk]
 have hI:p.scI=0:=by unfold Pat.scI;rw [if_pos hk]
 rw [hE,hI]
 generalize p.chk=er at *
 obtain ⟨pO,pA,pT,pV,pS,pN,pCo,pCa,pCv,pCf,pCk,pXk,pXn,pXt,hx,hxc,hpO,hpA,hpT,hpV,hpS,hpN⟩:=Pat.form2 p
 rw [hx] at q1 hcl ⊢
 clear hx hs hE hI
 refine zt ?_;unhygienic intros
 have kc:iNe er 0=true:=by simp only [ee];simpa using hk
 refine fB T57 [.t 2,.t 3] ?_
 refine Aq ?_
 refine oPA q1 ?_
 have fz:=kc
 refine Cq ?_
 refine Aq ?_
 exact fE [.gone]
theorem P_Returns (p:Pat) (l:List Ex) (hs:p.Sm) (hl:∀ e∈l,e.Sm) (hn:l.length<1048577):PCall EE 70 [p.enc,.isl 8 (mapE Ex.enc l)] (.tup [int (p.rtI l),int (p.rtE l)]):=by
 have q1:=P_pattern_Check p hs
 have hcl:=Pat.closed p
 have hec:=Ex.closedI l
 by_cases hk:p.chk=0
 rotate_left
 · have hE:p.rtE l=p.chk:=by unfold Pat.rtE;rw [if_pos hk]
   have hI:p.rtI l=0:=by unfold Pat.rtI;rw [if_pos hk]
   rw [hE,hI]
   generalize mapE Ex.enc l=es at *
   generalize p.chk=er at *
   obtain ⟨pO,pA,pT,pV,pS,pN,pCo,pCa,pCv,pCf,pCk,pXk,pXn,pXt,hx,hxc,hpO,hpA,hpT,hpV,hpS,hpN⟩:=Pat.form2 p
   rw [hx] at q1 hcl ⊢
   clear hx hs hE hI
   refine zt ?_;unhygienic intros
   have kc:iNe er 0=true:=by simp only [ee];simpa using hk
   refine fB T70 [.t 4,.t 5] ?_
   refine Aq ?_
   refine oPA q1 ?_
   have fz:=kc
   refine Cq ?_
   refine Aq ?_
   exact fE [.gone]
 have hw:=chk_wf hk
 have q2:=P_Bound p hs
 have q3:=P_ones p hs hw
 have hq4:∀ e∈l,PCall EE 89 [e.enc] (int e.chk):=fun e he=>P_expr_Check e (hl e he)
 have hq5:∀ e∈l,PCall EE 101 [e.enc,p.retP.enc] (int (e.fol p.retP)):=fun e he=>P_follows p.retP (by have:=bound_len hw;show p.bound.length<_;omega) (by have:=ones_len hw;show p.ones.length<_;omega) e (hl e he)
 rw [hk] at q1
 have r1:=zq p.bound
 have r2:=zq p.ones
 have hrc:p.retP.enc=.agg [.isl 1 (mapE int p.bound),.isl 1 (mapE int p.ones),int (-1)]:=rfl
 rw [hrc] at hq5
 have hE:p.rtE l=if 256<l.length then 5 else zu (uj p.retP) l:=by unfold Pat.rtE;rw [if_neg (fun k=>k hk)]
 have hI:p.rtI l=if 256<l.length then 0 else yX (uj p.retP) l:=by unfold Pat.rtI;rw [if_neg (fun k=>k hk)]
 rw [hE,hI]
 clear hE hI hrc
 generalize p.retP=s at *
 generalize mapE int p.bound=A1 at *
 generalize mapE int p.ones=A2 at *
 have hcs:(AV.agg [.isl 1 A1,.isl 1 A2,int (-1)]).closed=true:=by simp [AV.closed,AV.closedL] at r1 r2 ⊢;exact ⟨r1,r2⟩
 obtain ⟨pO,pA,pT,pV,pS,pN,pCo,pCa,pCv,pCf,pCk,pXk,pXn,pXt,hx,hxc,hpO,hpA,hpT,hpV,hpS,hpN⟩:=Pat.form2 p
 rw [hx] at q1 q2 q3 hcl ⊢
 clear hx hs hw hk
 refine zt ?_;unhygienic intros
 generalize hes:mapE Ex.enc l=es at *
 have hel:es.length=l.length:=by rw [← hes,zr]
 have kc:iNe 0 0=false:=by simp only [ee];rfl
 by_cases h256:256<l.length
 · rw [if_pos h256,if_pos h256]
   have kl:iLt 256 (lenA es)=true:=by simp only [ee];simp;omega
   refine fB T70 [.t 4,.t 5] ?_
   refine Aq ?_
   refine oPA q1 ?_
   have fz:=And.intro kc kl
   refine Cq ?_
   refine Cr ?_
   refine Aq ?_
   exact fE [.gone]
 rw [if_neg h256,if_neg h256]
 have kl:iLt 256 (lenA es)=false:=by simp only [ee];simp;omega
 obtain ⟨R,hR⟩:∃ R,R=zu (uj s) l:=⟨_,rfl⟩
 obtain ⟨J,hJ⟩:∃ J,J=yX (uj s) l:=⟨_,rfl⟩
 rw [← hR,← hJ]
 have hJ2:J=if R≠0 then 0+yX (uj s) l else 0:=by
  by_cases h:R=0
  · rw [if_neg (fun k=>k h),hJ,idx_zero (hR ▸ h)]
  rw [if_pos h,hJ];omega
 refine fB T70 [.t 4,.t 5] ?_
 refine Aq ?_
 refine oPA q1 ?_
 have fz:=And.intro kc kl
 refine Cq ?_
 refine Cr ?_
 refine Aq ?_
 refine zP rfl (by conv=>lhs;cbv) rfl ?_
 refine tgA ?_
 refine oPT q2 ?_
 refine tgA ?_
 refine oPT q3 ?_
 refine tgA ?_
 refine zH ⟨rfl,by simp [zK,zV],?_⟩
 refine Aq ?_
 refine za (ι:=List Ex × List Ex × Int) (fun p=>([(26,int p.2.2),(25,int (lenA es)),(24,.isl 8 es),(7,.ptr 0 0)],[.cells [.isl 1 A1,.isl 1 A2,int (-1)]])) (fun p=>l=p.1++p.2.1∧p.2.2=p.1.length∧R=zu (uj s) p.2.1∧J=(if R≠0 then p.2.2+yX (uj s) p.2.1 else 0)) (fun p=>p.2.1.length) ([],l,0) ⟨rfl,rfl,hR,hJ2⟩ ?_ ?_
 · exact (eS [.gone,.to 0] [some 1])
 rintro ⟨d,r,i⟩ ⟨g1,gi,gR,gJ⟩
 dsimp only at g1 gi gR gJ ⊢
 cases r with
 | nil =>
  have L1:=zw g1
  try simp only [List.length] at L1
  have hc:iLt i (lenA es)=false:=xg e_iLt e_lenA (by omega)
  have gR:R=0:=gR
  subst gR
  have gJ:J=0:=gJ
  subst gJ
  have fz:=hc
  refine Cq ?_
  refine Aq ?_
  refine zl ?_
  refine Aq ?_
  exact fE [.gone]
 | cons q r =>
  have L1:=zw g1
  try simp only [List.length] at L1
  have hc:iLt i (lenA es)=true:=xf e_iLt e_lenA (by omega)
  have hat:=z7 e_atA hes g1 gi
  have hqm:q∈l:=by rw [g1];simp
  have q4:=hq4 q hqm
  have q5:=hq5 q hqm
  have hqc:=Ex.closed q
  have hi2:iAdd .i64 i 1=((d++[q]).length:Int):=by rw [List.length_append];exact yq e_iAdd gi (by omega)
  obtain ⟨ck,eck⟩:∃ z,z=q.chk:=⟨_,rfl⟩
  obtain ⟨fq,efq⟩:∃ z,z=q.fol s:=⟨_,rfl⟩
  have hre:uj s q=if ck≠0 then ck else fq:=by rw [eck,efq];rfl
  rw [← eck] at q4
  rw [← efq] at q5
  rw [zu,hre] at gR
  rw [yX,hre] at gJ
  clear eck efq hre
  obtain ⟨qO,qA,qV,qF,qK,qXk,qXn,qXt,hxq⟩:=Ex.form q
  rw [hxq] at hat hqc q4 q5
  by_cases h1:ck=0
  · subst h1
    have e1:(if (0:Int)≠0 then (0:Int) else fq)=fq:=if_neg (fun k=>k rfl)
    rw [e1] at gR gJ
    have w0:iEq 0 0=true:=by simp only [ee];rfl
    by_cases h2:fq=0
    · subst h2
      rw [if_neg (fun k=>k rfl)] at gR
      have e2:(if (0:Int)≠0 then (0:Int) else if zu (uj s) r≠0 then yX (uj s) r+1 else 0)=if zu (uj s) r≠0 then yX (uj s) r+1 else 0:=if_neg (fun k=>k rfl)
      rw [e2] at gJ
      have gJ2:J=if R≠0 then iAdd .i64 i 1+yX (uj s) r else 0:=by
       rw [gJ]
       by_cases h:R=0
       · rw [if_neg (fun k=>k h),if_neg (fun k=>k h)]
       rw [if_pos h,if_pos h,if_pos (gR ▸ h),hi2,List.length_append];simp only [List.length_cons,List.length_nil];omega
      have fz:=And.intro hc (And.intro hat (And.intro w0 kc))
      refine Cq ?_
      refine Cr ?_
      refine oPA q4 ?_
      refine Cq ?_
      refine Aq ?_
      refine oPA q5 ?_
      refine Cq ?_
      refine Aq ?_
      refine zp (d++[q],r,iAdd .i64 i 1) ⟨by simp [g1],hi2,gR,gJ2⟩ (by simp) (eS [.to 0,.gone] [some 0])
    rw [if_pos h2] at gR
    subst gR
    rw [if_pos h2,if_pos h2,Int.add_zero] at gJ
    subst gJ
    have w1:iNe R 0=true:=by simp only [ee];simpa using h2
    have fz:=And.intro hc (And.intro hat (And.intro w0 w1))
    refine Cq ?_
    refine Cr ?_
    refine oPA q4 ?_
    refine Cq ?_
    refine Aq ?_
    refine oPA q5 ?_
    refine Cq ?_
    refine Aq ?_
    refine zi ?_
    refine Aq ?_
    exact fE [.gone,.gone]
  rw [if_pos h1,if_pos h1] at gR
  subst gR
  rw [if_pos h1,if_pos h1,if_pos h1,Int.add_zero] at gJ
  subst gJ
  have w0:iEq R 0=false:=by simp only [ee];simpa using h1
  have w1:iNe R 0=true:=by simp only [ee];simpa using h1
  have fz:=And.intro hc (And.intro hat (And.intro w0 w1))
  refine Cq ?_
  refine Cr ?_
  refine oPA q4 ?_
  refine Cq ?_
  refine Cr ?_
  refine Aq ?_
  refine zi ?_
  refine Aq ?_
  exact fE [.gone,.gone]
end Go.Am
end
