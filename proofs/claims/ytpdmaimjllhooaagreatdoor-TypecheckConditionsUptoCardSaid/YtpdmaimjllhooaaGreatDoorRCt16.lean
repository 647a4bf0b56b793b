/- Contracts of the program's functions. -/
import Derived.Test.YtpdmaimjllhooaaGreatDoorProg
import Derived.Test.YtpdmaimjllhooaaGreatDoorRCt11
section
set_option maxHeartbeats 16000000
set_option maxRecDepth 100000
namespace Go.Am
open Go.Proofs
theorem vr1 {p:Pat} (hw:p.wf) (ht:zD p.op=true):VR [p.var]:=fun n hn=>by
 simp at hn;rw [hn];exact hw.self.2.2.1 ht
theorem P_ref15_own (p:Pat) (hs:p.Sm) (hw:p.wf) (ht:yB p.op=true) (l:Plc) (hl:l.ok):PCall EE 167 [p.enc,l.enc] (p.own l).enc:=by
 have ho:=tests_or ht
 have hv1:=fun h=>vr1 hw h
 have hq1:=fun h=>y9 l.us [p.var] hl.1 (hv1 h) (by have:=hl.2.2.1;omega) u5
 have hq2:=fun h=>y9 l.si [p.var] hl.2.1 (hv1 h) (by have:=hl.2.2.2;omega) u5
 have hone:mapE int [p.var]=[int p.var]:=by rw [zk];rfl
 rw [hone] at hq1 hq2
 have hLU:=zx l.us
 have hLS:=zx l.si
 have hcl:=Pat.closed p
 have hwn:=hw.self.2.2.2.2
 have hR:(p.own l).enc=_:=rfl
 rw [hR]
 have hvc:(AV.isl 1 [int p.var]).closed=true:=rfl
 unfold Pat.own
 by_cases h0:p.op=0
 · rw [if_pos h0]
   have q1:=hq1 (by rw [h0];rfl)
   have q2:=hq2 (by rw [h0];rfl)
   simp only [Plc.enc]
   have r1:=zx (zG l.us [p.var])
   have r2:=zx (zG l.si [p.var])
   clear hq1 hq2 hv1
   generalize mapE int (zG l.us [p.var])=A1 at *
   generalize mapE int (zG l.si [p.var])=A2 at *
   generalize mapE int l.us=LU at *
   generalize mapE int l.si=LS at *
   obtain ⟨pO,pA,pT,pV,pS,pN,pCo,pCa,pCv,pCf,pCk,pXk,pXn,pXt,hx,hxc,hpO,hpA,hpT,hpV,hpS,hpN⟩:=Pat.form2 p
   rw [hx] at hcl ⊢
   rw [← hpO] at h0
   rw [← hpV] at q1 q2 hvc
   clear hx hxc hpA hR hone hwn ho
   refine zr ?_;unhygienic intros
   have k0:iEq pO 0=true:=by simp only [ee];simpa using h0
   refine fB T167 [.cell 4 3 true] ?_
   have fz:=k0
   refine Cq ?_
   refine Aq ?_
   refine zb rfl (by conv=>lhs;cbv) rfl ?_
   refine uA 4 hX (by conv=>lhs;cbv) ?_ ?_
   · first | exact trivial | (simp only [Cd.ok,ee];and_intros<;>first | omega | rfl | (simp<;>omega))
   refine uC rfl rfl rfl rfl ?_
   refine oPT q1 ?_
   refine uA 4 hX (by conv=>lhs;cbv) ?_ ?_
   · first | exact trivial | (simp only [Cd.ok,ee];and_intros<;>first | omega | rfl | (simp<;>omega))
   refine uC rfl rfl rfl rfl ?_
   refine oPT q2 ?_
   refine tgA ?_
   refine zW ⟨rfl,by simp [za,zZ],?_⟩
   refine Aq ?_
   exact fE [.gone,.gone,.gone]
 rw [if_neg h0]
 obtain ⟨e,he⟩:=hwn (by omega)
 have hes:=arg_sm hs he
 have hew:=arg_wf hw he
 have hea:p.arg0=e:=by unfold Pat.arg0;rw [he];rfl
 rw [hea]
 have q3:=P_ref09_Bound p hs
 rw [bound_arg h0 he] at q3
 have q4:=y9 l.us e.bound hl.1 (vq hew) (by have:=hl.2.2.1;omega) (by have:=wu hew;omega)
 have hub:(zG l.us e.bound).length<1048577:=by have:=uni_len l.us e.bound;have:=hl.2.2.1;have:=wu hew;omega
 have hq5:=fun h=>y9 (zG l.us e.bound) [p.var] (hl.1.uni (vq hew)) (hv1 h) hub u5
 have q7:=y9 l.si e.ones hl.2.1 (xK e hew).2 (by have:=hl.2.2.2;omega) (by have:=wP hew;omega)
 rw [hone] at hq5
 by_cases h5:p.op=5
 · rw [if_pos h5]
   have q5:=hq5 (by rw [h5];rfl)
   have q2:=hq2 (by rw [h5];rfl)
   simp only [Plc.enc]
   have r1:=zx (zG (zG l.us e.bound) [p.var])
   have r2:=zx (zG l.si [p.var])
   have r3:=zx e.bound
   have r4:=zx (zG l.us e.bound)
   clear q7 hq1 hq2 hv1 hq5
   generalize mapE int (zG (zG l.us e.bound) [p.var])=A1 at *
   generalize mapE int (zG l.si [p.var])=A2 at *
   generalize mapE int (zG l.us e.bound)=A3 at *
   generalize mapE int e.bound=A4 at *
   generalize mapE int l.us=LU at *
   generalize mapE int l.si=LS at *
   obtain ⟨pO,pA,pT,pV,pS,pN,pCo,pCa,pCv,pCf,pCk,pXk,pXn,pXt,hx,hxc,hpO,hpA,hpT,hpV,hpS,hpN⟩:=Pat.form2 p
   rw [hx] at hcl q3 ⊢
   rw [← hpO] at h0 h5
   rw [← hpV] at q2 q5 hvc
   clear hx hxc hpA hR hone hwn ho
   refine zr ?_;unhygienic intros
   have k0:iEq pO 0=false:=by simp only [ee];simpa using h0
   have k5:iEq pO 5=true:=by simp only [ee];simpa using h5
   refine fB T167 [.cell 4 3 true] ?_
   have fz:=k0
   refine Cq ?_
   have fz:=k5
   refine Cr ?_
   refine Cr ?_
   refine zb rfl (by conv=>lhs;cbv) rfl ?_
   refine uA 3 hX (by conv=>lhs;cbv) ?_ ?_
   · first | exact trivial | (simp only [Cd.ok,ee];and_intros<;>first | omega | rfl | (simp<;>omega))
   refine oPT q3 ?_
   refine oPT q4 ?_
   refine uA 2 hX (by conv=>lhs;cbv) ?_ ?_
   · first | exact trivial | (simp only [Cd.ok,ee];and_intros<;>first | omega | rfl | (simp<;>omega))
   refine uC rfl rfl rfl rfl ?_
   refine oPT q5 ?_
   refine uA 4 hX (by conv=>lhs;cbv) ?_ ?_
   · first | exact trivial | (simp only [Cd.ok,ee];and_intros<;>first | omega | rfl | (simp<;>omega))
   refine uC rfl rfl rfl rfl ?_
   refine oPT q2 ?_
   refine tgA ?_
   refine zW ⟨rfl,by simp [za,zZ],?_⟩
   refine Aq ?_
   refine zR rfl rfl ?_
   exact ⟨[.gone,.gone,.gone],⟨trivial,trivial,trivial,trivial⟩,.agg' ⟨.cl r1,.cl r2,.of (congrArg int (by assumption)),trivial⟩⟩
 rw [if_neg h5]
 have h7:p.op=7:=by omega
 have q6:=P_ref15_Ones p hs hw
 rw [ones_arg h0 (by rw [h7];rfl) he hew] at q6
 simp only [Plc.enc]
 have r1:=zx (zG l.us e.bound)
 have r2:=zx (zG l.si e.ones)
 have r3:=zx e.bound
 have r4:=zx e.ones
 clear hq5 hq1 hq2 hv1
 generalize mapE int (zG l.us e.bound)=A1 at *
 generalize mapE int (zG l.si e.ones)=A2 at *
 generalize mapE int e.bound=A4 at *
 generalize mapE int e.ones=A5 at *
 generalize mapE int l.us=LU at *
 generalize mapE int l.si=LS at *
 obtain ⟨pO,pA,pT,pV,pS,pN,pCo,pCa,pCv,pCf,pCk,pXk,pXn,pXt,hx,hxc,hpO,hpA,hpT,hpV,hpS,hpN⟩:=Pat.form2 p
 rw [hx] at hcl q3 q6 ⊢
 rw [← hpO] at h0 h5
 clear hx hxc hpA hR hone hwn ho
 refine zr ?_;unhygienic intros
 have k0:iEq pO 0=false:=by simp only [ee];simpa using h0
 have k5:iEq pO 5=false:=by simp only [ee];simpa using h5
 refine fB T167 [.cell 4 3 true] ?_
 have fz:=k0
 refine Cq ?_
 have fz:=k5
 refine Cr ?_
 refine Aq ?_
 refine zb rfl (by conv=>lhs;cbv) rfl ?_
 refine tgA ?_
 refine oPT q3 ?_
 refine oPT q4 ?_
 refine tgA ?_
 refine oPT q6 ?_
 refine oPT q7 ?_
 refine tgA ?_
 refine zW ⟨rfl,by simp [za,zZ],?_⟩
 refine Aq ?_
 exact fE [.gone,.gone,.gone]
theorem getD_app_lt {α:Type} {a b:List α} {k:Nat} {x:α} (h:k<a.length):(a++b).getD k x=a.getD k x:=by
 rw [List.getD_eq_getElem?_getD,List.getD_eq_getElem?_getD,List.getElem?_append_left h]
theorem getD_app_ge {α:Type} {a b:List α} {k:Nat} {x:α} (h:a.length≤k):(a++b).getD k x=b.getD (k - a.length) x:=by
 rw [List.getD_eq_getElem?_getD,List.getD_eq_getElem?_getD,List.getElem?_append_right h]
theorem P_ref15_at : ∀ p:Pat,p.Sm→p.wf→∀ (l:Plc),l.ok→∀ i:Int,0≤i→i<p.cnt→p.cnt<1048577→yB ((Pat.lf l p).getD i.toNat (Pat0,Plc0)).1.op=true →
 PCall EE 144 [p.enc,int i,l.enc] (((Pat.lf l p).getD i.toNat (Pat0,Plc0)).1.own ((Pat.lf l p).getD i.toNat (Pat0,Plc0)).2).enc:=by
 refine Pat.ind ?_
 intro o a t v sc n c ih hs hw l hl i hi0 hi1 hcn ht
 have hlen:=hs.len
 have hih:=fun q (hq:q∈a)=>ih q hq (hs.arg hq) (hw.arg hq)
 have hwa:∀ q∈a,q.wf:=fun q hq=>hw.arg hq
 have hsa:∀ q∈a,q.Sm:=fun q hq=>hs.arg hq
 obtain ⟨pp,hpp⟩:∃ pp,pp=Pat.mk o a t v sc n c:=⟨_,rfl⟩
 rw [Pat.lf,← hpp] at ht ⊢
 rw [Pat.cnt] at hi1 hcn
 have q0:=fun h=>P_ref15_own pp (by rw [hpp];exact hs) (by rw [hpp];exact hw) h l hl
 have hpc:=Pat.closed pp
 have hcl:=Pat.closedI a
 have hcc:=Ex.closed c
 have hpe:pp.enc=(Pat.mk o a t v sc n c).enc:=by rw [hpp]
 obtain ⟨cO,cA,cV,cF,cK,cXk,cXn,cXt,hcx⟩:=Ex.form c
 have hpx:=Pat.enc_c o a t v sc n hcx
 simp only [List.cons_append,List.nil_append] at hpx
 rw [hpx] at hpe
 rw [hpe] at q0 hpc ⊢
 rw [hcx] at hcc
 have hcaI:(AV.isl 8 cA).closed=true:=by have:=hcc;simp [AV.closed,AV.closedL] at this ⊢;exact this
 have hLU:=zx l.us
 have hLS:=zx l.si
 have hlc:=l.closed
 simp only [Plc.enc] at q0 hlc ⊢
 obtain ⟨LU,eLU⟩:∃ z,z=mapE int l.us:=⟨_,rfl⟩
 obtain ⟨LS,eLS⟩:∃ z,z=mapE int l.si:=⟨_,rfl⟩
 obtain ⟨fb,efb⟩:∃ z,z=l.fb:=⟨_,rfl⟩
 rw [← eLU,← eLS,← efb] at q0 hlc ⊢
 rw [← eLU] at hLU
 rw [← eLS] at hLS
 clear ih hs hw hpx hcx
 refine zr ?_;unhygienic intros
 by_cases h0:i=0
 · subst h0
   have hGX:((pp,l) :: Pat.lfL (decide (o=1)) l a).getD (0:Int).toNat (Pat0,Plc0)=(pp,l):=rfl
   rw [hGX] at ht ⊢
   have q1:=q0 ht
   dsimp only at q1 ⊢
   have r1:=zx (pp.own l).us
   have r2:=zx (pp.own l).si
   generalize mapE int (pp.own l).us=A1 at *
   generalize mapE int (pp.own l).si=A2 at *
   generalize (pp.own l).fb=f2 at *
   clear hpe hpp hih hwa hsa
   generalize mapE Pat.enc a=es at *
   have k0:iEq 0 0=true:=by simp only [ee];rfl
   refine fB T144 [.cell 6 3 true] ?_
   have fz:=k0
   refine Cq ?_
   refine Aq ?_
   refine oPA q1 ?_
   refine Aq ?_
   exact fE [.gone,.gone,.gone]
 have hGX:((pp,l) :: Pat.lfL (decide (o=1)) l a).getD i.toNat (Pat0,Plc0)=(Pat.lfL (decide (o=1)) l a).getD (i - 1).toNat (Pat0,Plc0):=by
  rw [show i.toNat=(i - 1).toNat+1 by omega,List.getD_cons_succ]
 rw [hGX] at ht ⊢
 obtain ⟨X,eX⟩:∃ X,X=(Pat.lfL (decide (o=1)) l a).getD (i - 1).toNat (Pat0,Plc0):=⟨_,rfl⟩
 rw [← eX] at ht ⊢
 have hih2:∀ q∈a,∀ (l2:Plc),l2.ok→∀ j:Int,0≤j→j<q.cnt→q.cnt<1048577→X=(Pat.lf l2 q).getD j.toNat (Pat0,Plc0)→PCall EE 144 [q.enc,int j,l2.enc] (X.1.own X.2).enc:=fun q hq l2 h2 j hj0 hj1 hc hx=>by
  have:=hih q hq l2 h2 j hj0 hj1 hc (by rw [← hx];exact ht)
  rw [← hx] at this
  exact this
 simp only [Plc.enc] at hih2
 have r1:=zx (X.1.own X.2).us
 have r2:=zx (X.1.own X.2).si
 generalize mapE int (X.1.own X.2).us=A1 at *
 generalize mapE int (X.1.own X.2).si=A2 at *
 generalize (X.1.own X.2).fb=f2 at *
 clear hih q0 ht hGX hpp hpe
 generalize hes:mapE Pat.enc a=es at *
 have hel:es.length=a.length:=by rw [← hes,zq]
 have k0:iEq i 0=false:=by simp only [ee];simpa using h0
 have ks:iSub .i64 i 1=i - 1:=sub_w e_iSub (by omega) (by omega)
 obtain ⟨i1,ei1⟩:∃ z,z=i - 1:=⟨_,rfl⟩
 rw [← ei1] at ks eX
 refine fB T144 [.cell 6 3 true] ?_
 have fz:=And.intro k0 ks
 refine Cq ?_
 refine Aq ?_
 refine zf (ι:=List Pat × List Pat × Int × Int × Plc × List AV × List AV × Int) (fun p=>([(7,int p.2.2.1),(1,int p.2.2.2.1),(3,.ptr 0 0),(5,.ptr 1 0),(6,.ptr 2 0)],[.cells [int o,.isl 14 es,int t,int v,int sc,int n,int cO,.isl 8 cA,int cV,int cF,int cK,int cXk,int cXn,str cXt],.cells [.isl 1 p.2.2.2.2.2.1,.isl 1 p.2.2.2.2.2.2.1,int p.2.2.2.2.2.2.2],.cells [.val (.slice none 0 0),.val (.slice none 0 0),int 0]])) (fun p=>a=p.1++p.2.1∧p.2.2.1=p.1.length∧p.2.2.2.2.1.ok∧0≤p.2.2.2.1∧p.2.2.2.1<Pat.cntL p.2.1∧Pat.cntL p.2.1<1048577∧X=(Pat.lfL (decide (o=1)) p.2.2.2.2.1 p.2.1).getD p.2.2.2.1.toNat (Pat0,Plc0)∧p.2.2.2.2.2.1=mapE int p.2.2.2.2.1.us∧p.2.2.2.2.2.2.1=mapE int p.2.2.2.2.1.si∧p.2.2.2.2.2.2.2=p.2.2.2.2.1.fb) (fun p=>p.2.1.length) ([],a,0,i1,l,LU,LS,fb) ⟨rfl,rfl,hl,(by show 0≤i1;omega),(by show i1<(Pat.cntL a:Int);omega),(by show Pat.cntL a<1048577;omega),eX,eLU,eLS,efb⟩ ?_ ?_
 · exact (zF [.to 0,.to 1,.to 2] [some 0,some 1,some 2] ⟨⟨by simp,rfl⟩,⟨by simp,rfl⟩,⟨by simp,rfl⟩,trivial⟩ ⟨ze (b:=0) rfl rfl rfl ⟨.refl _,.cl hcl,.refl _,.refl _,.refl _,.refl _,.refl _,.cl hcaI,.refl _,.refl _,.refl _,.refl _,.refl _,.refl _,trivial⟩,ze (b:=1) rfl rfl rfl ⟨.cl hLU,.cl hLS,.refl _,trivial⟩,ze (b:=2) rfl rfl rfl ⟨.refl _,.refl _,.refl _,trivial⟩,trivial⟩ ⟨.refl _,.of (congrArg int (by assumption)),.refl _,.refl _,.refl _,trivial⟩)
 rintro ⟨d,r,k,j,l2,LU2,LS2,fb2⟩ ⟨g1,gk,gl,g0,gj,gc,gX,gU,gS,gf⟩
 dsimp only at g1 gk gl g0 gj gc gX gU gS gf ⊢
 cases r with
 | nil=>rw [Pat.cntL] at gj;omega
 | cons q r =>
  have L1:=zu g1
  try simp only [List.length] at L1
  have hc:iLt k (lenA es)=true:=yY e_iLt e_lenA (by omega)
  have hat:=zP e_atA hes g1 gk
  have hqm:q∈a:=by rw [g1];simp
  have hqw:=hwa q hqm
  have hqs:=hsa q hqm
  have hqc:=Pat.closed q
  rw [Pat.cntL] at gj gc
  have hU2:(AV.isl 1 LU2).closed=true:=by rw [gU];exact zx _
  have hS2:(AV.isl 1 LS2).closed=true:=by rw [gS];exact zx _
  have hl2c:(AV.agg [.isl 1 LU2,.isl 1 LS2,int fb2]).closed=true:=by simp [AV.closed,AV.closedL] at hU2 hS2 ⊢;exact ⟨hU2,hS2⟩
  have hk2:iAdd .i64 k 1=((d++[q]).length:Int):=by rw [List.length_append];exact zJ e_iAdd gk (by omega)
  have q1:=yG q hqs
  have hnc:=Pat.closedI q.nodes
  obtain ⟨m,em⟩:∃ m:Int,m=(q.cnt:Int):=⟨_,rfl⟩
  have km:lenA (mapE Pat.enc q.nodes)=m:=by simp only [ee];rw [em,← q.nodes_len,← zq Pat.enc q.nodes]
  generalize mapE Pat.enc q.nodes=ns at *
  rw [Pat.lfL] at gX
  have hll:(Pat.lf l2 q).length=q.cnt:=Pat.lf_len q l2
  by_cases hj:j<m
  · have kj:iLt j m=true:=by simp only [ee];simpa using hj
    rw [getD_app_lt (by omega)] at gX
    have q2:=hih2 q hqm l2 gl j g0 (by omega) (by omega) gX
    rw [← gU,← gS,← gf] at q2
    obtain ⟨qO,qA,qT,qV,qS,qN,qCo,qCa,qCv,qCf,qCk,qXk,qXn,qXt,hxq⟩:=Pat.form q
    rw [hxq] at hat hqc q1 q2
    have fz:=And.intro hc (And.intro hat (And.intro km kj))
    refine Cq ?_
    refine Cr ?_
    refine oPA q1 ?_
    refine Cq ?_
    refine Cr ?_
    refine zb rfl (by conv=>lhs;cbv) rfl ?_
    refine tgC ?_
    refine oPT q2 ?_
    refine tgA ?_
    refine zW ⟨rfl,by simp [za,zZ],?_⟩
    refine Aq ?_
    refine zl ?_
    refine Aq ?_
    exact fE [.gone,.gone,.gone]
  have kj:iLt j m=false:=by simp only [ee];simpa using hj
  have kd:iSub .i64 j m=j - m:=sub_w e_iSub (by omega) (by omega)
  obtain ⟨j2,ej2⟩:∃ z,z=j - m:=⟨_,rfl⟩
  rw [← ej2] at kd
  rw [getD_app_ge (by omega),show j.toNat - (Pat.lf l2 q).length=j2.toNat by omega] at gX
  by_cases ho1:o=1
  · have k1:iEq o 1=true:=by simp only [ee];simpa using ho1
    rw [decide_eq_true ho1,if_pos rfl] at gX
    have q3:=P_ref09_Bound q hqs
    have q4:=y9 l2.us q.bound gl.1 (vq hqw) (by have:=gl.2.2.1;omega) (by have:=wu hqw;omega)
    have q5:=P_ref15_Ones q hqs hqw
    have q6:=y9 l2.si q.ones gl.2.1 (xK q hqw).2 (by have:=gl.2.2.2;omega) (by have:=wP hqw;omega)
    rw [← gU] at q4
    rw [← gS] at q6
    have s1:=zx q.bound
    have s2:=zx q.ones
    have s3:=zx (zG l2.us q.bound)
    have s4:=zx (zG l2.si q.ones)
    have gU3:mapE int (zG l2.us q.bound)=mapE int (l2.plus q).us:=rfl
    have gS3:mapE int (zG l2.si q.ones)=mapE int (l2.plus q).si:=rfl
    have gf3:(-1:Int)=(l2.plus q).fb:=rfl
    have gl3:=gl.plus hqw
    generalize mapE int q.bound=B1 at *
    generalize mapE int q.ones=B2 at *
    generalize mapE int (zG l2.us q.bound)=U3 at *
    generalize mapE int (zG l2.si q.ones)=S3 at *
    obtain ⟨qO,qA,qT,qV,qS,qN,qCo,qCa,qCv,qCf,qCk,qXk,qXn,qXt,hxq⟩:=Pat.form q
    rw [hxq] at hat hqc q1 q3 q5
    have fz:=And.intro hc (And.intro hat (And.intro km (And.intro kj (And.intro kd k1))))
    refine Cq ?_
    refine Cr ?_
    refine oPA q1 ?_
    refine Cq ?_
    refine Cr ?_
    refine Cr ?_
    refine zb rfl (by conv=>lhs;cbv) rfl ?_
    refine tgC ?_
    refine oPT q3 ?_
    refine oPT q4 ?_
    refine tgC ?_
    refine oPT q5 ?_
    refine oPT q6 ?_
    refine tgA ?_
    refine zW ⟨rfl,?_,?_⟩
    · simp only [za,zZ,List.cons_append,List.nil_append,List.append_nil];and_intros<;>first | trivial | (intro hp;first | rfl | exact absurd (show false=true from hp) Bool.false_ne_true)
    refine Aq ?_
    refine zw (d++[q],r,iAdd .i64 k 1,j2,l2.plus q,U3,S3,-1) ⟨by simp [g1],hk2,gl3,(by show 0≤j2;omega),(by show j2<(Pat.cntL r:Int);omega),(by show Pat.cntL r<1048577;omega),(by rw [decide_eq_true ho1];exact gX),gU3,gS3,gf3⟩ (by simp) (eS [.to 0,.to 1,.to 2] [some 0,some 1,some 2])
  have k1:iEq o 1=false:=by simp only [ee];simpa using ho1
  rw [decide_eq_false ho1,if_neg (show ¬ (false=true) by decide)] at gX
  obtain ⟨qO,qA,qT,qV,qS,qN,qCo,qCa,qCv,qCf,qCk,qXk,qXn,qXt,hxq⟩:=Pat.form q
  rw [hxq] at hat hqc q1
  have fz:=And.intro hc (And.intro hat (And.intro km (And.intro kj (And.intro kd k1))))
  refine Cq ?_
  refine Cr ?_
  refine oPA q1 ?_
  refine Cq ?_
  refine Cr ?_
  refine Aq ?_
  refine zw (d++[q],r,iAdd .i64 k 1,j2,l2,LU2,LS2,fb2) ⟨by simp [g1],hk2,gl,(by show 0≤j2;omega),(by show j2<(Pat.cntL r:Int);omega),(by show Pat.cntL r<1048577;omega),(by rw [decide_eq_false ho1];exact gX),gU,gS,gf⟩ (by simp) (eS [.to 0,.to 1,.to 2] [some 0,some 1,some 2])
end Go.Am
end
