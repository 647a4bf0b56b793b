/- Contracts of the program's functions. -/
import Derived.Test.YtpdmaimjllhooaaGreatDoorProg
import Derived.Test.YtpdmaimjllhooaaGreatDoorPCt9
import Derived.Test.YtpdmaimjllhooaaGreatDoorPCt10
import Derived.Test.YtpdmaimjllhooaaGreatDoorPCt11
section
set_option maxHeartbeats 16000000
set_option maxRecDepth 100000
namespace Go.Am
open Go.Proofs
open Classical in
theorem nodeE_red (p:Pat) (hl:p.args.length≤64):p.nodeE=(if p.op<0∨10<p.op then 1 else if ¬ (if p.op=0 then p.args.length=0 else if p.op=1∨p.op=2∨p.op=3 then 2≤p.args.length else if p.op=8 then p.args.length=2 else p.args.length=1) then 15
 else if (zJ p.op && decide (p.ty<0∨15<p.ty))=true∨(zJ p.op && decide (p.var<0∨15<p.var))=true∨(yP p.op && decide (p.scope<0∨63<p.scope))=true∨(xx p.op && decide (p.span<0∨1099511627776<p.span))=true then 2
 else if xP p.op=true∧p.cond.chk≠0 then p.cond.chk
 else if (zJ p.op=false∧(p.ty≠0∨p.var≠0))∨(yP p.op=false∧p.scope≠0)∨(xx p.op=false∧p.span≠0)∨(xP p.op=false∧p.cond≠Ex0) then 3 else 0):=by
 unfold Pat.nodeE
 by_cases h1:p.op<0∨11≤p.op
 · rw [if_pos h1,if_pos (show p.op<0∨10<p.op by omega)]
 rw [if_neg h1,if_neg (show ¬ (p.op<0∨10<p.op) by omega)]
 have h2:((p.args.length:Int)<wd p.op∨vc p.op<p.args.length)↔¬ (if p.op=0 then p.args.length=0 else if p.op=1∨p.op=2∨p.op=3 then 2≤p.args.length else if p.op=8 then p.args.length=2 else p.args.length=1):=by
  unfold wd vc
  (repeat' split)<;>omega
 by_cases h3:(p.args.length:Int)<wd p.op∨vc p.op<p.args.length
 · rw [if_pos h3,if_pos (h2.1 h3)]
 rw [if_neg h3,if_neg (fun h=>h3 (h2.2 h))]
 have h4:((zJ p.op && decide (p.ty<0∨15<p.ty))=true∨(zJ p.op && decide (p.var<0∨15<p.var))=true∨(yP p.op && decide (p.scope<0∨63<p.scope))=true∨(xx p.op && decide (p.span<0∨1099511627776<p.span))=true) ↔
  (zJ p.op=true∧(p.ty<0∨15<p.ty∨p.var<0∨15<p.var))∨(yP p.op=true∧(p.scope<0∨63<p.scope))∨(xx p.op=true∧(p.span<0∨1099511627776<p.span)):=by
  cases zJ p.op<;>cases yP p.op<;>cases xx p.op<;>simp<;>omega
 by_cases h5:(zJ p.op=true∧(p.ty<0∨15<p.ty∨p.var<0∨15<p.var))∨(yP p.op=true∧(p.scope<0∨63<p.scope))∨(xx p.op=true∧(p.span<0∨1099511627776<p.span))
 · rw [if_pos h5,if_pos (h4.2 h5)]
 rw [if_neg h5,if_neg (fun h=>h5 (h4.1 h))]
 by_cases h6:xP p.op=true∧p.cond.chk≠0
 · rw [if_pos h6,if_pos h6]
 rw [if_neg h6,if_neg h6]
 by_cases h7:(xP p.op=false∧p.cond≠Ex0)∨(zJ p.op=false∧(p.ty≠0∨p.var≠0))∨(yP p.op=false∧p.scope≠0)∨(xx p.op=false∧p.span≠0)
 · rw [if_pos h7]
   refine (if_pos ?_).symm
   rcases h7 with h | h | h | h
   · exact .inr (.inr (.inr h))
   · exact .inl h
   · exact .inr (.inl h)
   exact .inr (.inr (.inl h))
 rw [if_neg h7]
 refine (if_neg ?_).symm
 rintro (h | h | h | h)
 · exact h7 (.inr (.inl h))
 · exact h7 (.inr (.inr (.inl h)))
 · exact h7 (.inr (.inr (.inr h)))
 exact h7 (.inl h)
theorem P_ref09_node (p:Pat) (hs:p.Sm) (hlen:p.args.length≤64):PCall EE 88 [p.enc] (int p.nodeE):=by
 have h1:=P_ref09_arity p (by omega)
 have h2:=P_variable p
 have h3:=P_Negates p
 have h4:=P_Times p
 have h5:=P_condition p
 have h6:=P_ref08_Check p.cond hs.cond'
 have h7:=P_ref08_Same p.cond Ex0 hs.cond'
 rw [Ex0.form] at h7
 have hsc:yP p.op=(decide (p.op=5∨p.op=9) || xx p.op):=by unfold yP xx;rw [Bool.eq_iff_iff];simp;omega
 obtain ⟨R,hR⟩:∃ R,R=p.nodeE:=⟨_,rfl⟩
 rw [← hR]
 have hb:p.cond≠Ex0↔eqB p.cond Ex0=false:=⟨fun h=>ul h,fun h e=>(by rw [uP e] at h;cases h)⟩
 rw [nodeE_red p hlen,hsc] at hR
 simp only [hb] at hR
 clear hb
 have hcl:=Pat.closed p
 have hccl:=Ex.closed p.cond
 generalize hab:(decide (if p.op=0 then p.args.length=0 else if p.op=1∨p.op=2∨p.op=3 then 2≤p.args.length else if p.op=8 then p.args.length=2 else p.args.length=1))=ab at *
 have hab2:(if p.op=0 then p.args.length=0 else if p.op=1∨p.op=2∨p.op=3 then 2≤p.args.length else if p.op=8 then p.args.length=2 else p.args.length=1)↔ab=true:=by rw [← hab];simp
 simp only [hab2] at hR
 clear hab hab2 hsc
 have hco:(zJ p.op=true∧decide (p.op=5∨p.op=9)=false∧xx p.op=false∧xP p.op=true)∨(zJ p.op=true∧decide (p.op=5∨p.op=9)=true∧xx p.op=false∧xP p.op=true)∨(zJ p.op=false∧decide (p.op=5∨p.op=9)=false∧xx p.op=true∧xP p.op=false) ∨
  (zJ p.op=false∧decide (p.op=5∨p.op=9)=false∧xx p.op=false∧xP p.op=true)∨(zJ p.op=false∧decide (p.op=5∨p.op=9)=false∧xx p.op=false∧xP p.op=false):=by
  unfold zJ xx xP
  simp only [decide_eq_true_eq,decide_eq_false_iff_not]
  omega
 generalize zJ p.op=ty at *
 generalize decide (p.op=5∨p.op=9)=ng at *
 generalize xx p.op=sp at *
 generalize xP p.op=cd at *
 generalize eqB p.cond Ex0=eq at *
 generalize p.cond.chk=ck at *
 obtain ⟨pO,pA,pT,pV,pS,pN,pCo,pCa,pCv,pCf,pCk,pXk,pXn,pXt,hx,hxc,hpO,hpA,hpT,hpV,hpS,hpN⟩:=Pat.form2 p
 rw [hx] at h1 h2 h3 h4 h5 hcl ⊢
 rw [hxc] at h6 h7 hccl
 rw [← hpO,← hpT,← hpV,← hpS,← hpN] at hR
 have b1:=tM ty pT 15
 have b2:=tM ty pV 15
 have b3t:=tM true pS 63
 have b3f:=tM false pS 63
 have b4:=tM sp pN 1099511627776
 generalize decide (pT<0∨15<pT)=d1 at *
 generalize decide (pV<0∨15<pV)=d2 at *
 generalize decide (pS<0∨63<pS)=d3 at *
 generalize decide (pN<0∨1099511627776<pN)=d4 at *
 clear hpO hpA hpT hpV hpS hpN hx hxc hs hlen
 refine zt ?_;unhygienic intros
 refine fB T88 [.t 2] ?_
 rcases hco with ⟨rfl,rfl,rfl,rfl⟩ | ⟨rfl,rfl,rfl,rfl⟩ | ⟨rfl,rfl,rfl,rfl⟩ | ⟨rfl,rfl,rfl,rfl⟩ | ⟨rfl,rfl,rfl,rfl⟩
 ·
  refine goA 0 ?_
  refine oC (fun c1=>?_) fun c1=>?_
  ·
   simp [ee] at c1
   refine Aq ?_
   exact fG
  simp [ee] at c1
  refine Aq ?_
  refine oPA h1 ?_
  refine goA 0 ?_
  refine oC (fun c2=>?_) fun c2=>?_
  ·
   simp [ee] at c2
   refine Aq ?_
   exact fG
  simp [ee] at c2
  refine Aq ?_
  refine zP rfl (by conv=>lhs;cbv) rfl ?_
  refine tgA ?_
  refine oPT h2 ?_
  refine tgA ?_
  refine oPT h3 ?_
  refine tgA ?_
  refine zf rfl ?_
  refine tgA ?_
  refine zf rfl ?_
  refine oPT h4 ?_
  refine tgA ?_
  refine oPT h5 ?_
  refine tgA ?_
  refine zH ⟨rfl,by simp [zK,zV],?_⟩
  refine Aq ?_
  refine zP rfl (by conv=>lhs;cbv) rfl ?_
  refine tgA ?_
  refine oPT b1 ?_
  refine tgA ?_
  cases d1
  ·
   refine zf rfl ?_
   refine tgA ?_
   refine zf rfl ?_
   refine tgA ?_
   refine zf rfl ?_
   refine tgA ?_
   refine zf rfl ?_
   refine oPT b2 ?_
   refine tgA ?_
   cases d2
   ·
    refine zf rfl ?_
    refine tgA ?_
    refine zf rfl ?_
    refine tgA ?_
    refine zf rfl ?_
    refine tgA ?_
    refine zf rfl ?_
    refine oPT b3f ?_
    refine tgA ?_
    refine zf rfl ?_
    refine tgA ?_
    refine zf rfl ?_
    refine oPT h4 ?_
    refine zf rfl ?_
    refine tgA ?_
    refine zf rfl ?_
    refine tgA ?_
    refine zf rfl ?_
    refine oPT b4 ?_
    refine tgA ?_
    refine zH ⟨rfl,by simp [zK,zV],?_⟩
    refine Aq ?_
    refine oPA h6 ?_
    refine goA 0 ?_
    refine oC (fun c3=>?_) fun c3=>?_
    ·
     simp [ee] at c3
     refine Aq ?_
     exact fG
    simp [ee] at c3
    refine goA 0 ?_
    refine nsB hX (by conv=>lhs;cbv) ?_
    refine goA 0 ?_
    refine nsB hX (by conv=>lhs;cbv) ?_
    refine goA 0 ?_
    refine zj rfl rfl (fun c4=>?_) (fun c4=>?_)
    ·
     simp [ee] at c4
     refine Aq ?_
     refine zg rfl rfl ?_
     refine Aq ?_
     refine zg rfl rfl ?_
     refine Aq ?_
     exact fG
    simp [ee] at c4
    refine Aq ?_
    refine oPG h4 ?_
    refine goA 0 ?_
    refine goA 1 ?_
    refine goA 1 ?_
    refine nsB hX (by conv=>lhs;cbv) ?_
    refine goA 0 ?_
    refine zj rfl rfl (fun c5=>?_) (fun c5=>?_)
    ·
     simp [ee] at c5
     refine Aq ?_
     refine zg rfl rfl ?_
     refine Aq ?_
     exact fG
    simp [ee] at c5
    refine goA 1 ?_
    refine goA 1 ?_
    refine goA 1 ?_
    refine zj rfl rfl (fun c6=>?_) (fun c6=>?_)
    ·
     simp [ee] at c6
    simp [ee] at c6
    refine goA 1 ?_
    refine goA 1 ?_
    refine goA 1 ?_
    refine goA 1 ?_
    refine goA 1 ?_
    refine oC (fun c7=>?_) fun c7=>?_
    ·
     simp [ee] at c7
    simp [ee] at c7
    refine Aq ?_
    exact fG
   refine ze (.inl rfl) ?_
   refine ze (.inl rfl) ?_
   refine ze (.inl rfl) ?_
   refine ze (.inl rfl) ?_
   refine tgA ?_
   refine ze (.inl rfl) ?_
   refine ze (.inl rfl) ?_
   refine ze (.inl rfl) ?_
   refine ze (.inl rfl) ?_
   refine ze (.inl rfl) ?_
   refine tgA ?_
   refine zH ⟨rfl,by simp [zK,zV],?_⟩
   refine Aq ?_
   exact fG
  refine ze (.inl rfl) ?_
  refine ze (.inl rfl) ?_
  refine ze (.inl rfl) ?_
  refine ze (.inl rfl) ?_
  refine tgA ?_
  refine ze (.inl rfl) ?_
  refine ze (.inl rfl) ?_
  refine ze (.inl rfl) ?_
  refine ze (.inl rfl) ?_
  refine tgA ?_
  refine ze (.inl rfl) ?_
  refine ze (.inl rfl) ?_
  refine ze (.inl rfl) ?_
  refine ze (.inl rfl) ?_
  refine ze (.inl rfl) ?_
  refine tgA ?_
  refine zH ⟨rfl,by simp [zK,zV],?_⟩
  refine Aq ?_
  exact fG
 ·
  refine goA 0 ?_
  refine oC (fun c1=>?_) fun c1=>?_
  ·
   simp [ee] at c1
   refine Aq ?_
   exact fG
  simp [ee] at c1
  refine Aq ?_
  refine oPA h1 ?_
  refine goA 0 ?_
  refine oC (fun c2=>?_) fun c2=>?_
  ·
   simp [ee] at c2
   refine Aq ?_
   exact fG
  simp [ee] at c2
  refine Aq ?_
  refine zP rfl (by conv=>lhs;cbv) rfl ?_
  refine tgA ?_
  refine oPT h2 ?_
  refine tgA ?_
  refine oPT h3 ?_
  refine tgA ?_
  refine ze (.inl rfl) ?_
  refine ze (.inl rfl) ?_
  refine tgA ?_
  refine oPT h5 ?_
  refine tgA ?_
  refine zH ⟨rfl,by simp [zK,zV],?_⟩
  refine Aq ?_
  refine zP rfl (by conv=>lhs;cbv) rfl ?_
  refine tgA ?_
  refine oPT b1 ?_
  refine tgA ?_
  cases d1
  ·
   refine zf rfl ?_
   refine tgA ?_
   refine zf rfl ?_
   refine tgA ?_
   refine zf rfl ?_
   refine tgA ?_
   refine zf rfl ?_
   refine oPT b2 ?_
   refine tgA ?_
   cases d2
   ·
    refine zf rfl ?_
    refine tgA ?_
    refine zf rfl ?_
    refine tgA ?_
    refine zf rfl ?_
    refine tgA ?_
    refine zf rfl ?_
    refine oPT b3t ?_
    refine tgA ?_
    cases d3
    ·
     refine zf rfl ?_
     refine tgA ?_
     refine zf rfl ?_
     refine oPT h4 ?_
     refine zf rfl ?_
     refine tgA ?_
     refine zf rfl ?_
     refine tgA ?_
     refine zf rfl ?_
     refine oPT b4 ?_
     refine tgA ?_
     refine zH ⟨rfl,by simp [zK,zV],?_⟩
     refine Aq ?_
     refine oPA h6 ?_
     refine goA 0 ?_
     refine oC (fun c3=>?_) fun c3=>?_
     ·
      simp [ee] at c3
      refine Aq ?_
      exact fG
     simp [ee] at c3
     refine goA 0 ?_
     refine nsB hX (by conv=>lhs;cbv) ?_
     refine goA 0 ?_
     refine nsB hX (by conv=>lhs;cbv) ?_
     refine goA 0 ?_
     refine zj rfl rfl (fun c4=>?_) (fun c4=>?_)
     ·
      simp [ee] at c4
     simp [ee] at c4
     refine Aq ?_
     refine oPG h4 ?_
     refine goA 0 ?_
     refine goA 1 ?_
     refine goA 1 ?_
     refine nsB hX (by conv=>lhs;cbv) ?_
     refine goA 0 ?_
     refine zj rfl rfl (fun c5=>?_) (fun c5=>?_)
     ·
      simp [ee] at c5
      refine Aq ?_
      refine zg rfl rfl ?_
      refine Aq ?_
      exact fG
     simp [ee] at c5
     refine goA 1 ?_
     refine goA 1 ?_
     refine goA 1 ?_
     refine zj rfl rfl (fun c6=>?_) (fun c6=>?_)
     ·
      simp [ee] at c6
     simp [ee] at c6
     refine goA 1 ?_
     refine goA 1 ?_
     refine goA 1 ?_
     refine goA 1 ?_
     refine goA 1 ?_
     refine oC (fun c7=>?_) fun c7=>?_
     ·
      simp [ee] at c7
     simp [ee] at c7
     refine Aq ?_
     exact fG
    refine ze (.inl rfl) ?_
    refine ze (.inl rfl) ?_
    refine ze (.inl rfl) ?_
    refine ze (.inl rfl) ?_
    refine ze (.inl rfl) ?_
    refine tgA ?_
    refine zH ⟨rfl,by simp [zK,zV],?_⟩
    refine Aq ?_
    exact fG
   refine ze (.inl rfl) ?_
   refine ze (.inl rfl) ?_
   refine ze (.inl rfl) ?_
   refine ze (.inl rfl) ?_
   refine tgA ?_
   refine ze (.inl rfl) ?_
   refine ze (.inl rfl) ?_
   refine ze (.inl rfl) ?_
   refine ze (.inl rfl) ?_
   refine ze (.inl rfl) ?_
   refine tgA ?_
   refine zH ⟨rfl,by simp [zK,zV],?_⟩
   refine Aq ?_
   exact fG
  refine ze (.inl rfl) ?_
  refine ze (.inl rfl) ?_
  refine ze (.inl rfl) ?_
  refine ze (.inl rfl) ?_
  refine tgA ?_
  refine ze (.inl rfl) ?_
  refine ze (.inl rfl) ?_
  refine ze (.inl rfl) ?_
  refine ze (.inl rfl) ?_
  refine tgA ?_
  refine ze (.inl rfl) ?_
  refine ze (.inl rfl) ?_
  refine ze (.inl rfl) ?_
  refine ze (.inl rfl) ?_
  refine ze (.inl rfl) ?_
  refine tgA ?_
  refine zH ⟨rfl,by simp [zK,zV],?_⟩
  refine Aq ?_
  exact fG
 ·
  refine goA 0 ?_
  refine oC (fun c1=>?_) fun c1=>?_
  ·
   simp [ee] at c1
   refine Aq ?_
   exact fG
  simp [ee] at c1
  refine Aq ?_
  refine oPA h1 ?_
  refine goA 0 ?_
  refine oC (fun c2=>?_) fun c2=>?_
  ·
   simp [ee] at c2
   refine Aq ?_
   exact fG
  simp [ee] at c2
  refine Aq ?_
  refine zP rfl (by conv=>lhs;cbv) rfl ?_
  refine tgA ?_
  refine oPT h2 ?_
  refine tgA ?_
  refine oPT h3 ?_
  refine tgA ?_
  refine zf rfl ?_
  refine tgA ?_
  refine zf rfl ?_
  refine oPT h4 ?_
  refine tgA ?_
  refine oPT h5 ?_
  refine tgA ?_
  refine zH ⟨rfl,by simp [zK,zV],?_⟩
  refine Aq ?_
  refine zP rfl (by conv=>lhs;cbv) rfl ?_
  refine tgA ?_
  refine oPT b1 ?_
  refine tgA ?_
  refine zf rfl ?_
  refine tgA ?_
  refine zf rfl ?_
  refine tgA ?_
  refine zf rfl ?_
  refine tgA ?_
  refine zf rfl ?_
  refine oPT b2 ?_
  refine tgA ?_
  refine zf rfl ?_
  refine tgA ?_
  refine zf rfl ?_
  refine tgA ?_
  refine zf rfl ?_
  refine tgA ?_
  refine zf rfl ?_
  refine oPT b3t ?_
  refine tgA ?_
  cases d3
  ·
   refine zf rfl ?_
   refine tgA ?_
   refine zf rfl ?_
   refine oPT h4 ?_
   refine zf rfl ?_
   refine tgA ?_
   refine zf rfl ?_
   refine tgA ?_
   refine zf rfl ?_
   refine oPT b4 ?_
   refine tgA ?_
   refine zH ⟨rfl,by simp [zK,zV],?_⟩
   refine goA 0 ?_
   refine oC (fun c3=>?_) fun c3=>?_
   ·
    refine Aq ?_
    exact fG
   refine goA 0 ?_
   refine goA 1 ?_
   refine nsB hX (by conv=>lhs;cbv) ?_
   refine goA 0 ?_
   refine nsB hX (by conv=>lhs;cbv) ?_
   refine goA 0 ?_
   refine zj rfl rfl (fun c4=>?_) (fun c4=>?_)
   ·
    simp [ee] at c4
    refine Aq ?_
    refine zg rfl rfl ?_
    refine Aq ?_
    refine zg rfl rfl ?_
    refine Aq ?_
    exact fG
   simp [ee] at c4
   refine Aq ?_
   refine oPG h4 ?_
   refine goA 0 ?_
   refine goA 1 ?_
   refine goA 1 ?_
   refine nsB hX (by conv=>lhs;cbv) ?_
   refine goA 0 ?_
   refine zj rfl rfl (fun c5=>?_) (fun c5=>?_)
   ·
    simp [ee] at c5
   simp [ee] at c5
   refine goA 1 ?_
   refine goA 1 ?_
   refine goA 1 ?_
   refine zj rfl rfl (fun c6=>?_) (fun c6=>?_)
   ·
    simp [ee] at c6
    refine Aq ?_
    refine xX rfl rfl h7 rfl ⟨[.gone],⟨trivial,trivial⟩,⟨.cl hccl,.agg' ⟨.refl _,.nilI _,.refl _,.refl _,.refl _,.refl _,.refl _,.refl _,trivial⟩,trivial⟩⟩ ?_
    refine goA 0 ?_
    refine goA 1 ?_
    refine oC (fun c7=>?_) fun c7=>?_
    ·
     simp [ee] at c7
     refine Aq ?_
     exact fG
    simp [ee] at c7
    refine Aq ?_
    exact fG
   simp [ee] at c6
  refine ze (.inl rfl) ?_
  refine ze (.inl rfl) ?_
  refine ze (.inl rfl) ?_
  refine ze (.inl rfl) ?_
  refine ze (.inl rfl) ?_
  refine tgA ?_
  refine zH ⟨rfl,by simp [zK,zV],?_⟩
  refine Aq ?_
  exact fG
 ·
  refine goA 0 ?_
  refine oC (fun c1=>?_) fun c1=>?_
  ·
   simp [ee] at c1
   refine Aq ?_
   exact fG
  simp [ee] at c1
  refine Aq ?_
  refine oPA h1 ?_
  refine goA 0 ?_
  refine oC (fun c2=>?_) fun c2=>?_
  ·
   simp [ee] at c2
   refine Aq ?_
   exact fG
  simp [ee] at c2
  refine Aq ?_
  refine zP rfl (by conv=>lhs;cbv) rfl ?_
  refine tgA ?_
  refine oPT h2 ?_
  refine tgA ?_
  refine oPT h3 ?_
  refine tgA ?_
  refine zf rfl ?_
  refine tgA ?_
  refine zf rfl ?_
  refine oPT h4 ?_
  refine tgA ?_
  refine oPT h5 ?_
  refine tgA ?_
  refine zH ⟨rfl,by simp [zK,zV],?_⟩
  refine Aq ?_
  refine zP rfl (by conv=>lhs;cbv) rfl ?_
  refine tgA ?_
  refine oPT b1 ?_
  refine tgA ?_
  refine zf rfl ?_
  refine tgA ?_
  refine zf rfl ?_
  refine tgA ?_
  refine zf rfl ?_
  refine tgA ?_
  refine zf rfl ?_
  refine oPT b2 ?_
  refine tgA ?_
  refine zf rfl ?_
  refine tgA ?_
  refine zf rfl ?_
  refine tgA ?_
  refine zf rfl ?_
  refine tgA ?_
  refine zf rfl ?_
  refine oPT b3f ?_
  refine tgA ?_
  refine zf rfl ?_
  refine tgA ?_
  refine zf rfl ?_
  refine oPT h4 ?_
  refine zf rfl ?_
  refine tgA ?_
  refine zf rfl ?_
  refine tgA ?_
  refine zf rfl ?_
  refine oPT b4 ?_
  refine tgA ?_
  refine zH ⟨rfl,by simp [zK,zV],?_⟩
  refine Aq ?_
  refine oPA h6 ?_
  refine goA 0 ?_
  refine oC (fun c3=>?_) fun c3=>?_
  ·
   simp [ee] at c3
   refine Aq ?_
   exact fG
  simp [ee] at c3
  refine goA 0 ?_
  refine nsB hX (by conv=>lhs;cbv) ?_
  refine goA 0 ?_
  refine nsB hX (by conv=>lhs;cbv) ?_
  refine goA 0 ?_
  refine zj rfl rfl (fun c4=>?_) (fun c4=>?_)
  ·
   simp [ee] at c4
   refine Aq ?_
   refine zg rfl rfl ?_
   refine Aq ?_
   refine zg rfl rfl ?_
   refine Aq ?_
   exact fG
  simp [ee] at c4
  refine Aq ?_
  refine oPG h4 ?_
  refine goA 0 ?_
  refine goA 1 ?_
  refine goA 1 ?_
  refine nsB hX (by conv=>lhs;cbv) ?_
  refine goA 0 ?_
  refine zj rfl rfl (fun c5=>?_) (fun c5=>?_)
  ·
   simp [ee] at c5
   refine Aq ?_
   refine zg rfl rfl ?_
   refine Aq ?_
   exact fG
  simp [ee] at c5
  refine goA 1 ?_
  refine goA 1 ?_
  refine goA 1 ?_
  refine zj rfl rfl (fun c6=>?_) (fun c6=>?_)
  ·
   simp [ee] at c6
  simp [ee] at c6
  refine goA 1 ?_
  refine goA 1 ?_
  refine goA 1 ?_
  refine goA 1 ?_
  refine goA 1 ?_
  refine oC (fun c7=>?_) fun c7=>?_
  ·
   simp [ee] at c7
  simp [ee] at c7
  refine Aq ?_
  exact fG
 refine goA 0 ?_
 refine oC (fun c1=>?_) fun c1=>?_
 ·
  simp [ee] at c1
  refine Aq ?_
  exact fG
 simp [ee] at c1
 refine Aq ?_
 refine oPA h1 ?_
 refine goA 0 ?_
 refine oC (fun c2=>?_) fun c2=>?_
 ·
  simp [ee] at c2
  refine Aq ?_
  exact fG
 simp [ee] at c2
 refine Aq ?_
 refine zP rfl (by conv=>lhs;cbv) rfl ?_
 refine tgA ?_
 refine oPT h2 ?_
 refine tgA ?_
 refine oPT h3 ?_
 refine tgA ?_
 refine zf rfl ?_
 refine tgA ?_
 refine zf rfl ?_
 refine oPT h4 ?_
 refine tgA ?_
 refine oPT h5 ?_
 refine tgA ?_
 refine zH ⟨rfl,by simp [zK,zV],?_⟩
 refine Aq ?_
 refine zP rfl (by conv=>lhs;cbv) rfl ?_
 refine tgA ?_
 refine oPT b1 ?_
 refine tgA ?_
 refine zf rfl ?_
 refine tgA ?_
 refine zf rfl ?_
 refine tgA ?_
 refine zf rfl ?_
 refine tgA ?_
 refine zf rfl ?_
 refine oPT b2 ?_
 refine tgA ?_
 refine zf rfl ?_
 refine tgA ?_
 refine zf rfl ?_
 refine tgA ?_
 refine zf rfl ?_
 refine tgA ?_
 refine zf rfl ?_
 refine oPT b3f ?_
 refine tgA ?_
 refine zf rfl ?_
 refine tgA ?_
 refine zf rfl ?_
 refine oPT h4 ?_
 refine zf rfl ?_
 refine tgA ?_
 refine zf rfl ?_
 refine tgA ?_
 refine zf rfl ?_
 refine oPT b4 ?_
 refine tgA ?_
 refine zH ⟨rfl,by simp [zK,zV],?_⟩
 refine goA 0 ?_
 refine goA 1 ?_
 refine goA 1 ?_
 refine nsB hX (by conv=>lhs;cbv) ?_
 refine goA 0 ?_
 refine nsB hX (by conv=>lhs;cbv) ?_
 refine goA 0 ?_
 refine zj rfl rfl (fun c3=>?_) (fun c3=>?_)
 ·
  simp [ee] at c3
  refine Aq ?_
  refine zg rfl rfl ?_
  refine Aq ?_
  refine zg rfl rfl ?_
  refine Aq ?_
  exact fG
 simp [ee] at c3
 refine Aq ?_
 refine oPG h4 ?_
 refine goA 0 ?_
 refine goA 1 ?_
 refine goA 1 ?_
 refine nsB hX (by conv=>lhs;cbv) ?_
 refine goA 0 ?_
 refine zj rfl rfl (fun c4=>?_) (fun c4=>?_)
 ·
  simp [ee] at c4
  refine Aq ?_
  refine zg rfl rfl ?_
  refine Aq ?_
  exact fG
 simp [ee] at c4
 refine goA 1 ?_
 refine goA 1 ?_
 refine goA 1 ?_
 refine zj rfl rfl (fun c5=>?_) (fun c5=>?_)
 ·
  simp [ee] at c5
  refine Aq ?_
  refine xX rfl rfl h7 rfl ⟨[.gone],⟨trivial,trivial⟩,⟨.cl hccl,.agg' ⟨.refl _,.nilI _,.refl _,.refl _,.refl _,.refl _,.refl _,.refl _,trivial⟩,trivial⟩⟩ ?_
  refine goA 0 ?_
  refine goA 1 ?_
  refine oC (fun c6=>?_) fun c6=>?_
  ·
   simp [ee] at c6
   refine Aq ?_
   exact fG
  simp [ee] at c6
  refine Aq ?_
  exact fG
 simp [ee] at c5
theorem P_ref09_CheckRest (p:Pat) (hs:p.Sm):PCall EE 40 [p.enc] (int p.chkR):=by
 have h1:=P_ref09_Total 64 (by decide) p hs
 have h2:=P_ref09_Depth p hs
 have h3:=P_ref09_Nodes p hs
 have htot:=Pat.tot_iff p 64
 have hnd:=hs.node
 have hcn:=cnt_node p
 have hcl:=Pat.closed p
 obtain ⟨R,hR⟩:∃ R,R=p.chkR:=⟨_,rfl⟩
 rw [← hR]
 unfold Pat.chkR at hR
 obtain ⟨tt,htt⟩:∃ z:Int,z=p.tot 64:=⟨_,rfl⟩
 obtain ⟨dp,hdp⟩:∃ z:Int,z=p.dep:=⟨_,rfl⟩
 rw [← htt] at h1
 rw [← hdp] at h2
 have hnl:=Pat.nodes_len p
 have hqn:p.cnt≤64→∀ q∈p.nodes,PCall EE 88 [q.enc] (int q.nodeE):=fun hc q hq=>P_ref09_node q (hnd q hq) (by
  have h1:=(hcn q hq).1
  obtain ⟨o,a,t,v,s,n,c⟩:=q
  have:=Pat.cntL_len a
  simp only [Pat.cnt,Pat.args] at h1 ⊢
  omega)
 have hnc:=Pat.closedI p.nodes
 generalize hnn:p.nodes=nl at *
 obtain ⟨pO,pA,pT,pV,pS,pN,pCo,pCa,pCv,pCf,pCk,pXk,pXn,pXt,hx⟩:=Pat.form p
 rw [hx] at h1 h2 h3 hcl ⊢
 refine zt ?_;unhygienic intros
 generalize hes:mapE Pat.enc nl=es at *
 have hel:es.length=nl.length:=by rw [← hes,zr]
 refine fB T40 [.t 2] ?_
 by_cases g1:tt≤64
 rotate_left
 · have k1:iLt 64 tt=true:=by simp only [ee];simp;omega
   rw [if_pos (by omega)] at hR
   refine Aq ?_
   refine oPA h1 ?_
   have fz:=k1
   refine Cq ?_
   refine Aq ?_
   exact fI (h:=hR.symm)
 have k1:iLt 64 tt=false:=by simp only [ee];simp;omega
 rw [if_neg (by omega)] at hR
 have hqn:=hqn (by omega)
 by_cases g2:dp≤12
 rotate_left
 · have k2:iLt 12 dp=true:=by simp only [ee];simp;omega
   rw [if_pos (by omega)] at hR
   refine Aq ?_
   refine oPA h1 ?_
   have fz:=And.intro k1 k2
   refine Cq ?_
   refine Aq ?_
   refine oPA h2 ?_
   refine Cq ?_
   refine Aq ?_
   exact fI (h:=hR.symm)
 have k2:iLt 12 dp=false:=by simp only [ee];simp;omega
 rw [if_neg (by omega)] at hR
 refine Aq ?_
 refine oPA h1 ?_
 have fz:=And.intro k1 k2
 refine Cq ?_
 refine Aq ?_
 refine oPA h2 ?_
 refine Cq ?_
 refine Aq ?_
 refine oPA h3 ?_
 refine Aq ?_
 refine za (ι:=List Pat × List Pat × Int) (fun p=>([(4,int p.2.2),(3,.isl 14 es)],[])) (fun p=>nl=p.1++p.2.1∧p.2.2=p.1.length∧R=zu Pat.nodeE p.2.1) (fun p=>p.2.1.length) ([],nl,0) ⟨rfl,rfl,hR⟩ ?_ ?_
 · exact (eS [.gone] [])
 rintro ⟨d,r,i⟩ ⟨g1,gi,gR⟩
 dsimp only at g1 gi gR ⊢
 cases r with
 | nil =>
  have L1:=zw g1
  try simp only [List.length] at L1
  have hc:iLt i (lenA es)=false:=xg e_iLt e_lenA (by omega)
  have gR:R=0:=gR
  have fz:=hc
  refine Cq ?_
  refine Aq ?_
  refine zl ?_
  refine Aq ?_
  exact fI (h:=gR.symm)
 | cons q r =>
  have L1:=zw g1
  try simp only [List.length] at L1
  have hc:iLt i (lenA es)=true:=xf e_iLt e_lenA (by omega)
  have hat:=z7 e_atA hes g1 gi
  have hq:=hqn q (by rw [g1];simp)
  have hqc:=Pat.closed q
  rw [zu] at gR
  obtain ⟨qO,qA,qT,qV,qS,qN,qCo,qCa,qCv,qCf,qCk,qXk,qXn,qXt,hy⟩:=Pat.form q
  rw [hy] at hat hqc hq
  have hi2:iAdd .i64 i 1=((d++[q]).length:Int):=by rw [List.length_append];exact yq e_iAdd gi (by omega)
  generalize q.nodeE=fq at *
  by_cases h2:fq=0
  · have w2:iNe fq 0=false:=by simp only [ee];simpa using h2
    rw [if_neg (by simpa using h2)] at gR
    have fz:=And.intro hc (And.intro hat w2)
    refine Cq ?_
    refine Cr ?_
    refine oPA hq ?_
    refine Cq ?_
    refine Aq ?_
    refine zp (d++[q],r,iAdd .i64 i 1) ⟨by simp [g1],hi2,gR⟩ (by simp) (eS [] [])
  have w2:iNe fq 0=true:=by simp only [ee];simpa using h2
  rw [if_pos h2] at gR
  have fz:=And.intro hc (And.intro hat w2)
  refine Cq ?_
  refine Cr ?_
  refine oPA hq ?_
  refine Cq ?_
  refine Aq ?_
  refine zi ?_
  refine Aq ?_
  exact fI (h:=gR.symm)
end Go.Am
end
