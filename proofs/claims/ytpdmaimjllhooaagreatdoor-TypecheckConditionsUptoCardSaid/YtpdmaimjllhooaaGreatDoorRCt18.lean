/- Contracts of the program's functions. -/
import Derived.Test.YtpdmaimjllhooaaGreatDoorProg
import Derived.Test.YtpdmaimjllhooaaGreatDoorRCt15
import Derived.Test.YtpdmaimjllhooaaGreatDoorRCt16
section
set_option maxHeartbeats 16000000
set_option maxRecDepth 100000
namespace Go.Am
open Go.Proofs
theorem lfL_fb {r:List Pat} (ih:∀ e∈r,∀ l l':Plc,l.us=l'.us→l.si=l'.si→(Pat.lf l e).map (fun x=>(x.1,x.2.us,x.2.si))=(Pat.lf l' e).map fun x=>(x.1,x.2.us,x.2.si)):∀ (b:Bool) (l l':Plc),l.us=l'.us→l.si=l'.si→(Pat.lfL b l r).map (fun x=>(x.1,x.2.us,x.2.si))=(Pat.lfL b l' r).map fun x=>(x.1,x.2.us,x.2.si):=by
 induction r with
 | nil=>intro b l l' _ _;rw [Pat.lfL,Pat.lfL]
 | cons q r ihr =>
  intro b l l' h1 h2
  rw [Pat.lfL,Pat.lfL,List.map_append,List.map_append,ih q (by simp) l l' h1 h2]
  refine congrArg _ (ihr (fun e he=>ih e (by simp [he])) b _ _ ?_ ?_)
  · cases b
    · exact h1
    show zG l.us q.bound=zG l'.us q.bound;rw [h1]
  cases b
  · exact h2
  show zG l.si q.ones=zG l'.si q.ones;rw [h2]
theorem lf_fb : ∀ p:Pat,∀ l l':Plc,l.us=l'.us→l.si=l'.si→(Pat.lf l p).map (fun x=>(x.1,x.2.us,x.2.si))=(Pat.lf l' p).map fun x=>(x.1,x.2.us,x.2.si):=Pat.ind fun o a t v s n c ih l l' h1 h2=>by
 rw [Pat.lf,Pat.lf,List.map_cons,List.map_cons,lfL_fb ih _ l l' h1 h2,h1,h2]
theorem own_fb (p:Pat) (k:Nat):((Pat.lf Plc0 p).getD k (Pat0,Plc0)).1.own ((Pat.lf Plc0 p).getD k (Pat0,Plc0)).2=((Pat.lf PlcS p).getD k (Pat0,Plc0)).1.own ((Pat.lf PlcS p).getD k (Pat0,Plc0)).2:=by
 have h:=congrArg (fun L=>L[k]?) (lf_fb p Plc0 PlcS rfl rfl)
 simp only [List.getElem?_map] at h
 rw [List.getD_eq_getElem?_getD,List.getD_eq_getElem?_getD]
 cases h1:(Pat.lf Plc0 p)[k]? with
 | none =>
  cases h2:(Pat.lf PlcS p)[k]? with
  | none=>rfl
  | some y=>rw [h1,h2] at h;cases h
 | some x =>
  cases h2:(Pat.lf PlcS p)[k]? with
  | none=>rw [h1,h2] at h;cases h
  | some y =>
   rw [h1,h2] at h
   simp only [Option.map_some,Option.some.injEq,Prod.mk.injEq] at h
   obtain ⟨e1,e2,e3⟩:=h
   show x.1.own x.2=y.1.own y.2
   unfold Pat.own
   rw [e1,e2,e3]
theorem P_ref15_At (p:Pat) (i:Int) (hs:p.Sm):PCall EE 107 [p.enc,int i] (.tup [(p.atP i).enc,int (p.atE i)]):=by
 have q1:=P_ref09_Check p hs
 have q2:=P_ref09_Node p i hs
 have hcl:=Pat.closed p
 have hz:Plc0.enc=.agg [.isl 1 [],.isl 1 [],int 0]:=by
  unfold Plc.enc Plc0
  have:mapE int []=[]:=by rw [zk];rfl
  dsimp only
  rw [this]
 by_cases hk:p.chk=0
 rotate_left
 · have hE:p.atE i=p.chk:=by unfold Pat.atE;rw [if_pos hk]
   have hP:p.atP i=Plc0:=by unfold Pat.atP;rw [if_neg (by rw [hE];exact hk)]
   rw [hE,hP,hz]
   clear q2
   generalize p.chk=er at *
   obtain ⟨pO,pA,pT,pV,pS,pN,pCo,pCa,pCv,pCf,pCk,pXk,pXn,pXt,hx,hxc,hpO,hpA,hpT,hpV,hpS,hpN⟩:=Pat.form2 p
   rw [hx] at q1 hcl ⊢
   clear hx hs hE hP
   refine zr ?_;unhygienic intros
   have kc:iNe er 0=true:=by simp only [ee];simpa using hk
   refine fB t8 [.cell 4 3 true,.t 5] ?_
   refine Aq ?_
   refine oPA q1 ?_
   have fz:=kc
   refine Cq ?_
   refine Aq ?_
   refine zR rfl rfl ?_
   exact ⟨[.gone,.gone],⟨trivial,trivial,trivial⟩,.tup' ⟨.agg' ⟨.nilI _,.nilI _,.refl _,trivial⟩,.refl _,trivial⟩⟩
 have hw:=ti hk
 have hcnt:=(chkR_zero.1 (we (vm hk).1).1).1
 have hn:=p.nodes_len
 rw [hk] at q1
 have hqc:=Pat.closed (p.nodeAt i)
 by_cases hi:0≤i∧i<p.nodes.length
 rotate_left
 · have hE:p.atE i=6:=by unfold Pat.atE;rw [if_neg (fun k=>k hk),if_neg hi]
   have hP:p.atP i=Plc0:=by unfold Pat.atP;rw [if_neg (by rw [hE];decide)]
   have hN:p.nodeEr i=6:=by unfold Pat.nodeEr;rw [if_neg hi]
   rw [hE,hP,hz]
   rw [hN] at q2
   generalize p.nodeAt i=q at *
   obtain ⟨qO,qA,qT,qV,qS,qN,qCo,qCa,qCv,qCf,qCk,qXk,qXn,qXt,hxq⟩:=Pat.form q
   rw [hxq] at q2 hqc
   obtain ⟨pO,pA,pT,pV,pS,pN,pCo,pCa,pCv,pCf,pCk,pXk,pXn,pXt,hx⟩:=Pat.form p
   rw [hx] at q1 q2 hcl ⊢
   clear hx hs hE hP hw hn hi hk hcnt hN hxq
   refine zr ?_;unhygienic intros
   have k0:iNe 0 0=false:=by simp only [ee];rfl
   have k6:iNe 6 0=true:=by simp only [ee];rfl
   refine fB t8 [.cell 4 3 true,.t 5] ?_
   refine Aq ?_
   refine oPA q1 ?_
   have fz:=And.intro k0 k6
   refine Cq ?_
   refine Aq ?_
   refine oPA q2 ?_
   refine Cq ?_
   refine Aq ?_
   refine zR rfl rfl ?_
   exact ⟨[.gone,.gone,.gone],⟨trivial,trivial,trivial,trivial⟩,.tup' ⟨.agg' ⟨.nilI _,.nilI _,.refl _,trivial⟩,.refl _,trivial⟩⟩
 have hN:p.nodeEr i=0:=by unfold Pat.nodeEr;rw [if_pos hi]
 rw [hN] at q2
 have hx2:((Pat.lf PlcS p).getD i.toNat (Pat0,Plc0)).1=p.nodeAt i:=by rw [lf_at];unfold Pat.nodeAt;rw [if_pos hi]
 have hE:p.atE i=if yB (p.nodeAt i).op=true then 0 else 1:=by unfold Pat.atE;rw [if_neg (fun k=>k hk),if_pos hi]
 by_cases ht:yB (p.nodeAt i).op=true
 rotate_left
 · rw [if_neg ht] at hE
   have hP:p.atP i=Plc0:=by unfold Pat.atP;rw [if_neg (by rw [hE];decide)]
   rw [hE,hP,hz]
   clear hx2
   generalize p.nodeAt i=q at *
   obtain ⟨qO,qA,qT,qV,qS,qN,qCo,qCa,qCv,qCf,qCk,qXk,qXn,qXt,hxq,hxqc,hqO,hqA,hqT,hqV,hqS,hqN⟩:=Pat.form2 q
   rw [hxq] at q2 hqc
   rw [← hqO] at ht
   obtain ⟨pO,pA,pT,pV,pS,pN,pCo,pCa,pCv,pCf,pCk,pXk,pXn,pXt,hx⟩:=Pat.form p
   rw [hx] at q1 q2 hcl ⊢
   clear hx hs hE hP hw hn hi hk hcnt hN hxq
   unfold yB at ht
   refine zr ?_;unhygienic intros
   have k0:iNe 0 0=false:=by simp only [ee];rfl
   have k1:iNe qO 0=true:=by simp only [ee];simp at ht ⊢;omega
   have k2:iNe qO 5=true:=by simp only [ee];simp at ht ⊢;omega
   have k3:iNe qO 7=true:=by simp only [ee];simp at ht ⊢;omega
   refine fB t8 [.cell 4 3 true,.t 5] ?_
   refine Aq ?_
   refine oPA q1 ?_
   have fz:=And.intro k0 (And.intro k1 (And.intro k2 k3))
   refine Cq ?_
   refine Aq ?_
   refine oPA q2 ?_
   refine Cq ?_
   refine Cr ?_
   refine oC (fun c1=>?_) fun c1=>?_
   ·
    simp [ee] at c1
    refine Aq ?_
    refine zR rfl rfl ?_
    exact ⟨[.gone,.gone,.gone],⟨trivial,trivial,trivial,trivial⟩,.tup' ⟨.agg' ⟨.nilI _,.nilI _,.refl _,trivial⟩,.refl _,trivial⟩⟩
   simp [ee] at c1
 rw [if_pos ht] at hE
 have hP:p.atP i=((Pat.lf PlcS p).getD i.toNat (Pat0,Plc0)).1.own ((Pat.lf PlcS p).getD i.toNat (Pat0,Plc0)).2:=by unfold Pat.atP;rw [if_pos hE]
 have q3:=P_ref15_at p hs hw Plc0 ⟨fun _ h=>(by cases h),fun _ h=>(by cases h),by decide,by decide⟩ i hi.1 (by omega) (by omega) (by rw [lf_at,← lf_at p PlcS,hx2];exact ht)
 rw [own_fb,← hP] at q3
 rw [hz] at q3
 rw [hE]
 simp only [Plc.enc] at q3 ⊢
 have r1:=zx (p.atP i).us
 have r2:=zx (p.atP i).si
 clear hx2 hP
 generalize mapE int (p.atP i).us=A1 at *
 generalize mapE int (p.atP i).si=A2 at *
 generalize (p.atP i).fb=f2 at *
 generalize p.nodeAt i=q at *
 obtain ⟨qO,qA,qT,qV,qS,qN,qCo,qCa,qCv,qCf,qCk,qXk,qXn,qXt,hxq,hxqc,hqO,hqA,hqT,hqV,hqS,hqN⟩:=Pat.form2 q
 rw [hxq] at q2 hqc
 rw [← hqO] at ht
 obtain ⟨pO,pA,pT,pV,pS,pN,pCo,pCa,pCv,pCf,pCk,pXk,pXn,pXt,hx⟩:=Pat.form p
 rw [hx] at q1 q2 q3 hcl ⊢
 replace q3:=q3.weak (args:=[.agg [int pO,.isl 14 pA,int pT,int pV,int pS,int pN,int pCo,.isl 8 pCa,int pCv,int pCf,int pCk,int pXk,int pXn,str pXt],int i,.agg [.val (.slice none 0 0),.val (.slice none 0 0),int 0]]) ⟨.refl _,.refl _,.agg' ⟨.nilI _,.nilI _,.refl _,trivial⟩,trivial⟩
 clear hx hs hE hw hn hi hk hcnt hN hxq
 refine zr ?_;unhygienic intros
 have k0:iNe 0 0=false:=by simp only [ee];rfl
 rcases tests_or ht with h | h | h
 · have k1:iNe qO 0=false:=by simp only [ee];simpa using h
   refine fB t8 [.cell 4 3 true,.t 5] ?_
   refine Aq ?_
   refine oPA q1 ?_
   have fz:=And.intro k0 k1
   refine Cq ?_
   refine Aq ?_
   refine oPA q2 ?_
   refine Cq ?_
   refine Cr ?_
   refine oC (fun c1=>?_) fun c1=>?_
   ·
    simp [ee] at c1
   simp [ee] at c1
   refine Aq ?_
   refine oPA q3 ?_
   refine Aq ?_
   refine zR rfl rfl ?_
   exact ⟨[.gone,.gone,.gone],⟨trivial,trivial,trivial,trivial⟩,.tup' ⟨.agg' ⟨.cl r1,.cl r2,.refl _,trivial⟩,.refl _,trivial⟩⟩
 · have k1:iNe qO 0=true:=by simp only [ee];simp;omega
   have k2:iNe qO 5=false:=by simp only [ee];simpa using h
   refine fB t8 [.cell 4 3 true,.t 5] ?_
   refine Aq ?_
   refine oPA q1 ?_
   have fz:=And.intro k0 (And.intro k1 k2)
   refine Cq ?_
   refine Aq ?_
   refine oPA q2 ?_
   refine Cq ?_
   refine Cr ?_
   refine oC (fun c1=>?_) fun c1=>?_
   ·
    simp [ee] at c1
   simp [ee] at c1
   refine Aq ?_
   refine oPA q3 ?_
   refine Aq ?_
   refine zR rfl rfl ?_
   exact ⟨[.gone,.gone,.gone],⟨trivial,trivial,trivial,trivial⟩,.tup' ⟨.agg' ⟨.cl r1,.cl r2,.refl _,trivial⟩,.refl _,trivial⟩⟩
 have k1:iNe qO 0=true:=by simp only [ee];simp;omega
 have k2:iNe qO 5=true:=by simp only [ee];simp;omega
 have k3:iNe qO 7=false:=by simp only [ee];simpa using h
 refine fB t8 [.cell 4 3 true,.t 5] ?_
 refine Aq ?_
 refine oPA q1 ?_
 have fz:=And.intro k0 (And.intro k1 (And.intro k2 k3))
 refine Cq ?_
 refine Aq ?_
 refine oPA q2 ?_
 refine Cq ?_
 refine Cr ?_
 refine oC (fun c1=>?_) fun c1=>?_
 ·
  simp [ee] at c1
 simp [ee] at c1
 refine Aq ?_
 refine oPA q3 ?_
 refine Aq ?_
 refine zR rfl rfl ?_
 exact ⟨[.gone,.gone,.gone],⟨trivial,trivial,trivial,trivial⟩,.tup' ⟨.agg' ⟨.cl r1,.cl r2,.refl _,trivial⟩,.refl _,trivial⟩⟩
end Go.Am
end
