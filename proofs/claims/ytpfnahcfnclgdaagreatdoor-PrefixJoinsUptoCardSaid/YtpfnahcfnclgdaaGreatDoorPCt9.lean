/- Contracts of the program's functions. -/
import Derived.Test.YtpfnahcfnclgdaaGreatDoorProg
import Derived.Test.YtpfnahcfnclgdaaGreatDoorPCt6
import Derived.Test.YtpfnahcfnclgdaaGreatDoorPCt3
import Derived.Test.YtpfnahcfnclgdaaGreatDoorPCt5
noncomputable section
set_option maxHeartbeats 16000000
set_option maxRecDepth 100000
namespace Go.Am
open Go.Proofs
open Classical in
theorem nodeE_red (p:Pat) (hl:p.args.length≤64):p.nodeE=(if p.op<0∨10<p.op then 1 else if ¬ (if p.op=0 then p.args.length=0 else if p.op=1∨p.op=2∨p.op=3 then 2≤p.args.length else if p.op=8 then p.args.length=2 else p.args.length=1) then 15
 else if (yg p.op && decide (p.ty<0∨15<p.ty))=true∨(yg p.op && decide (p.var<0∨15<p.var))=true∨(xw p.op && decide (p.scope<0∨63<p.scope))=true∨(xa p.op && decide (p.span<0∨1099511627776<p.span))=true then 2
 else if wl p.op=true∧p.cond.chk≠0 then p.cond.chk
 else if (yg p.op=false∧(p.ty≠0∨p.var≠0))∨(xw p.op=false∧p.scope≠0)∨(xa p.op=false∧p.span≠0)∨(wl p.op=false∧p.cond≠Ex0) then 3 else 0):=by
 unfold Pat.nodeE
 by_cases h1:p.op<0∨11≤p.op
 · rw [if_pos h1,if_pos (show p.op<0∨10<p.op by omega)]
 rw [if_neg h1,if_neg (show ¬ (p.op<0∨10<p.op) by omega)]
 have h2:((p.args.length:Int)<uz p.op∨tp p.op<p.args.length)↔¬ (if p.op=0 then p.args.length=0 else if p.op=1∨p.op=2∨p.op=3 then 2≤p.args.length else if p.op=8 then p.args.length=2 else p.args.length=1):=by
  unfold uz tp
  (repeat' split)<;>omega
 by_cases h3:(p.args.length:Int)<uz p.op∨tp p.op<p.args.length
 · rw [if_pos h3,if_pos (h2.1 h3)]
 rw [if_neg h3,if_neg (fun h=>h3 (h2.2 h))]
 have h4:((yg p.op && decide (p.ty<0∨15<p.ty))=true∨(yg p.op && decide (p.var<0∨15<p.var))=true∨(xw p.op && decide (p.scope<0∨63<p.scope))=true∨(xa p.op && decide (p.span<0∨1099511627776<p.span))=true) ↔
  (yg p.op=true∧(p.ty<0∨15<p.ty∨p.var<0∨15<p.var))∨(xw p.op=true∧(p.scope<0∨63<p.scope))∨(xa p.op=true∧(p.span<0∨1099511627776<p.span)):=by
  cases yg p.op<;>cases xw p.op<;>cases xa p.op<;>simp<;>omega
 by_cases h5:(yg p.op=true∧(p.ty<0∨15<p.ty∨p.var<0∨15<p.var))∨(xw p.op=true∧(p.scope<0∨63<p.scope))∨(xa p.op=true∧(p.span<0∨1099511627776<p.span))
 · rw [if_pos h5,if_pos (h4.2 h5)]
 rw [if_neg h5,if_neg (fun h=>h5 (h4.1 h))]
 by_cases h6:wl p.op=true∧p.cond.chk≠0
 · rw [if_pos h6,if_pos h6]
 rw [if_neg h6,if_neg h6]
 by_cases h7:(wl p.op=false∧p.cond≠Ex0)∨(yg p.op=false∧(p.ty≠0∨p.var≠0))∨(xw p.op=false∧p.scope≠0)∨(xa p.op=false∧p.span≠0)
 · rw [if_pos h7]
   refine (if_pos ?_).symm
   rcases h7 with h | h | h | h
   · exact .inr (.inr (.inr h))
   · exact .inl h
   · exact .inr (.inl h)
   exact .inr (.inr (.inl h))
 rw [if_neg h7]
 refine (if_neg ?_).symm
 rintro (h | h | h | h)
 · exact h7 (.inr (.inl h))
 · exact h7 (.inr (.inr (.inl h)))
 · exact h7 (.inr (.inr (.inr h)))
 exact h7 (.inl h)
theorem P_ref09_node (p:Pat) (hs:p.Sm) (hlen:p.args.length≤64):PCall EE 128 [p.enc] (int p.nodeE):=by
 have h1:=P_ref09_arity p (by omega)
 have h2:=P_variable p
 have h3:=P_Negates p
 have h4:=P_Times p
 have h5:=P_condition p
 have h6:=P_ref08_Check p.cond hs.cond'
 have h7:=P_ref08_Same p.cond Ex0 hs.cond'
 rw [Ex0.form] at h7
 have hsc:xw p.op=(decide (p.op=5∨p.op=9) || xa p.op):=by unfold xw xa;rw [Bool.eq_iff_iff];simp;omega
 obtain ⟨R,hR⟩:∃ R,R=p.nodeE:=⟨_,rfl⟩
 rw [← hR]
 have hb:p.cond≠Ex0↔eqB p.cond Ex0=false:=⟨fun h=>xl h,fun h e=>(by rw [xF e] at h;cases h)⟩
 rw [nodeE_red p hlen,hsc] at hR
 simp only [hb] at hR
 clear hb
 have hcl:=Pat.closed p
 have hccl:=Ex.closed p.cond
 generalize hab:(decide (if p.op=0 then p.args.length=0 else if p.op=1∨p.op=2∨p.op=3 then 2≤p.args.length else if p.op=8 then p.args.length=2 else p.args.length=1))=ab at *
 have hab2:(if p.op=0 then p.args.length=0 else if p.op=1∨p.op=2∨p.op=3 then 2≤p.args.length else if p.op=8 then p.args.length=2 else p.args.length=1)↔ab=true:=by rw [← hab];simp
 simp only [hab2] at hR
 clear hab hab2 hsc
 have hco:(yg p.op=true∧decide (p.op=5∨p.op=9)=false∧xa p.op=false∧wl p.op=true)∨(yg p.op=true∧decide (p.op=5∨p.op=9)=true∧xa p.op=false∧wl p.op=true)∨(yg p.op=false∧decide (p.op=5∨p.op=9)=false∧xa p.op=true∧wl p.op=false) ∨
  (yg p.op=false∧decide (p.op=5∨p.op=9)=false∧xa p.op=false∧wl p.op=true)∨(yg p.op=false∧decide (p.op=5∨p.op=9)=false∧xa p.op=false∧wl p.op=false):=by
  unfold yg xa wl
  simp only [decide_eq_true_eq,decide_eq_false_iff_not]
  omega
 generalize yg p.op=ty at *
 generalize decide (p.op=5∨p.op=9)=ng at *
 generalize xa p.op=sp at *
 generalize wl p.op=cd at *
 generalize eqB p.cond Ex0=eq at *
 generalize p.cond.chk=ck at *
 obtain ⟨pO,pA,pT,pV,pS,pN,pCo,pCa,pCv,pCf,pCk,pXk,pXn,pXt,hx,hxc,hpO,hpA,hpT,hpV,hpS,hpN⟩:=Pat.form2 p
 rw [hx] at h1 h2 h3 h4 h5 hcl ⊢
 rw [hxc] at h6 h7 hccl
 rw [← hpO,← hpT,← hpV,← hpS,← hpN] at hR
 have b1:=re ty pT 15
 have b2:=re ty pV 15
 have b3t:=re true pS 63
 have b3f:=re false pS 63
 have b4:=re sp pN 1099511627776
 generalize decide (pT<0∨15<pT)=d1 at *
 generalize decide (pV<0∨15<pV)=d2 at *
 generalize decide (pS<0∨63<pS)=d3 at *
 generalize decide (pN<0∨1099511627776<pN)=d4 at *
 clear hpO hpA hpT hpV hpS hpN hx hxc hs hlen
 refine zo ?_;unhygienic intros
 refine fB T128 [.t 2] ?_
 rcases hco with ⟨rfl,rfl,rfl,rfl⟩ | ⟨rfl,rfl,rfl,rfl⟩ | ⟨rfl,rfl,rfl,rfl⟩ | ⟨rfl,rfl,rfl,rfl⟩ | ⟨rfl,rfl,rfl,rfl⟩
 ·
  refine goA 0 ?_
  refine oC (fun c1=>?_) fun c1=>?_
  ·
   simp [ee] at c1
   refine Aq ?_
   exact fG
  simp [ee] at c1
  refine Aq ?_
  refine oPA h1 ?_
  refine goA 0 ?_
  refine oC (fun c2=>?_) fun c2=>?_
  ·
   simp [ee] at c2
   refine Aq ?_
   exact fG
  simp [ee] at c2
  refine Aq ?_
  refine zX rfl (by conv=>lhs;cbv) rfl ?_
  refine tgA ?_
  refine oPT h2 ?_
  refine tgA ?_
  refine oPT h3 ?_
  refine tgA ?_
  refine zn rfl ?_
  refine tgA ?_
  refine zn rfl ?_
  refine oPT h4 ?_
  refine tgA ?_
  refine oPT h5 ?_
  refine tgA ?_
  refine zK ⟨rfl,by simp [zJ,zd],?_⟩
  refine Aq ?_
  refine zX rfl (by conv=>lhs;cbv) rfl ?_
  refine tgA ?_
  refine oPT b1 ?_
  refine tgA ?_
  cases d1
  ·
   refine zn rfl ?_
   refine tgA ?_
   refine zn rfl ?_
   refine tgA ?_
   refine zn rfl ?_
   refine tgA ?_
   refine zn rfl ?_
   refine oPT b2 ?_
   refine tgA ?_
   cases d2
   ·
    refine zn rfl ?_
    refine tgA ?_
    refine zn rfl ?_
    refine tgA ?_
    refine zn rfl ?_
    refine tgA ?_
    refine zn rfl ?_
    refine oPT b3f ?_
    refine tgA ?_
    refine zn rfl ?_
    refine tgA ?_
    refine zn rfl ?_
    refine oPT h4 ?_
    refine zn rfl ?_
    refine tgA ?_
    refine zn rfl ?_
    refine tgA ?_
    refine zn rfl ?_
    refine oPT b4 ?_
    refine tgA ?_
    refine zK ⟨rfl,by simp [zJ,zd],?_⟩
    refine Aq ?_
    refine oPA h6 ?_
    refine goA 0 ?_
    refine oC (fun c3=>?_) fun c3=>?_
    ·
     simp [ee] at c3
     refine Aq ?_
     exact fG
    simp [ee] at c3
    refine goA 0 ?_
    refine nsB hX (by conv=>lhs;cbv) ?_
    refine goA 0 ?_
    refine nsB hX (by conv=>lhs;cbv) ?_
    refine goA 0 ?_
    refine zG rfl rfl (fun c4=>?_) (fun c4=>?_)
    ·
     simp [ee] at c4
     refine Aq ?_
     refine zZ rfl rfl ?_
     refine Aq ?_
     refine zZ rfl rfl ?_
     refine Aq ?_
     exact fG
    simp [ee] at c4
    refine Aq ?_
    refine oPG h4 ?_
    refine goA 0 ?_
    refine goA 1 ?_
    refine goA 1 ?_
    refine nsB hX (by conv=>lhs;cbv) ?_
    refine goA 0 ?_
    refine zG rfl rfl (fun c5=>?_) (fun c5=>?_)
    ·
     simp [ee] at c5
     refine Aq ?_
     refine zZ rfl rfl ?_
     refine Aq ?_
     exact fG
    simp [ee] at c5
    refine goA 1 ?_
    refine goA 1 ?_
    refine goA 1 ?_
    refine zG rfl rfl (fun c6=>?_) (fun c6=>?_)
    ·
     simp [ee] at c6
    simp [ee] at c6
    refine goA 1 ?_
    refine goA 1 ?_
    refine goA 1 ?_
    refine goA 1 ?_
    refine goA 1 ?_
    refine oC (fun c7=>?_) fun c7=>?_
    ·
     simp [ee] at c7
    simp [ee] at c7
    refine Aq ?_
    exact fG
   refine zq (.inl rfl) ?_
   refine zq (.inl rfl) ?_
   refine zq (.inl rfl) ?_
   refine zq (.inl rfl) ?_
   refine tgA ?_
   refine zq (.inl rfl) ?_
   refine zq (.inl rfl) ?_
   refine zq (.inl rfl) ?_
   refine zq (.inl rfl) ?_
   refine zq (.inl rfl) ?_
   refine tgA ?_
   refine zK ⟨rfl,by simp [zJ,zd],?_⟩
   refine Aq ?_
   exact fG
  refine zq (.inl rfl) ?_
  refine zq (.inl rfl) ?_
  refine zq (.inl rfl) ?_
  refine zq (.inl rfl) ?_
  refine tgA ?_
  refine zq (.inl rfl) ?_
  refine zq (.inl rfl) ?_
  refine zq (.inl rfl) ?_
  refine zq (.inl rfl) ?_
  refine tgA ?_
  refine zq (.inl rfl) ?_
  refine zq (.inl rfl) ?_
  refine zq (.inl rfl) ?_
  refine zq (.inl rfl) ?_
  refine zq (.inl rfl) ?_
  refine tgA ?_
  refine zK ⟨rfl,by simp [zJ,zd],?_⟩
  refine Aq ?_
  exact fG
 ·
  refine goA 0 ?_
  refine oC (fun c1=>?_) fun c1=>?_
  ·
   simp [ee] at c1
   refine Aq ?_
   exact fG
  simp [ee] at c1
  refine Aq ?_
  refine oPA h1 ?_
  refine goA 0 ?_
  refine oC (fun c2=>?_) fun c2=>?_
  ·
   simp [ee] at c2
   refine Aq ?_
   exact fG
  simp [ee] at c2
  refine Aq ?_
  refine zX rfl (by conv=>lhs;cbv) rfl ?_
  refine tgA ?_
  refine oPT h2 ?_
  refine tgA ?_
  refine oPT h3 ?_
  refine tgA ?_
  refine zq (.inl rfl) ?_
  refine zq (.inl rfl) ?_
  refine tgA ?_
  refine oPT h5 ?_
  refine tgA ?_
  refine zK ⟨rfl,by simp [zJ,zd],?_⟩
  refine Aq ?_
  refine zX rfl (by conv=>lhs;cbv) rfl ?_
  refine tgA ?_
  refine oPT b1 ?_
  refine tgA ?_
  cases d1
  ·
   refine zn rfl ?_
   refine tgA ?_
   refine zn rfl ?_
   refine tgA ?_
   refine zn rfl ?_
   refine tgA ?_
   refine zn rfl ?_
   refine oPT b2 ?_
   refine tgA ?_
   cases d2
   ·
    refine zn rfl ?_
    refine tgA ?_
    refine zn rfl ?_
    refine tgA ?_
    refine zn rfl ?_
    refine tgA ?_
    refine zn rfl ?_
    refine oPT b3t ?_
    refine tgA ?_
    cases d3
    ·
     refine zn rfl ?_
     refine tgA ?_
     refine zn rfl ?_
     refine oPT h4 ?_
     refine zn rfl ?_
     refine tgA ?_
     refine zn rfl ?_
     refine tgA ?_
     refine zn rfl ?_
     refine oPT b4 ?_
     refine tgA ?_
     refine zK ⟨rfl,by simp [zJ,zd],?_⟩
     refine Aq ?_
     refine oPA h6 ?_
     refine goA 0 ?_
     refine oC (fun c3=>?_) fun c3=>?_
     ·
      simp [ee] at c3
      refine Aq ?_
      exact fG
     simp [ee] at c3
     refine goA 0 ?_
     refine nsB hX (by conv=>lhs;cbv) ?_
     refine goA 0 ?_
     refine nsB hX (by conv=>lhs;cbv) ?_
     refine goA 0 ?_
     refine zG rfl rfl (fun c4=>?_) (fun c4=>?_)
     ·
      simp [ee] at c4
     simp [ee] at c4
     refine Aq ?_
     refine oPG h4 ?_
     refine goA 0 ?_
     refine goA 1 ?_
     refine goA 1 ?_
     refine nsB hX (by conv=>lhs;cbv) ?_
     refine goA 0 ?_
     refine zG rfl rfl (fun c5=>?_) (fun c5=>?_)
     ·
      simp [ee] at c5
      refine Aq ?_
      refine zZ rfl rfl ?_
      refine Aq ?_
      exact fG
     simp [ee] at c5
     refine goA 1 ?_
     refine goA 1 ?_
     refine goA 1 ?_
     refine zG rfl rfl (fun c6=>?_) (fun c6=>?_)
     ·
      simp [ee] at c6
     simp [ee] at c6
     refine goA 1 ?_
     refine goA 1 ?_
     refine goA 1 ?_
     refine goA 1 ?_
     refine goA 1 ?_
     refine oC (fun c7=>?_) fun c7=>?_
     ·
      simp [ee] at c7
     simp [ee] at c7
     refine Aq ?_
     exact fG
    refine zq (.inl rfl) ?_
    refine zq (.inl rfl) ?_
    refine zq (.inl rfl) ?_
    refine zq (.inl rfl) ?_
    refine zq (.inl rfl) ?_
    refine tgA ?_
    refine zK ⟨rfl,by simp [zJ,zd],?_⟩
    refine Aq ?_
    exact fG
   refine zq (.inl rfl) ?_
   refine zq (.inl rfl) ?_
   refine zq (.inl rfl) ?_
   refine zq (.inl rfl) ?_
   refine tgA ?_
   refine zq (.inl rfl) ?_
   refine zq (.inl rfl) ?_
   refine zq (.inl rfl) ?_
   refine zq (.inl rfl) ?_
   refine zq (.inl rfl) ?_
   refine tgA ?_
   refine zK ⟨rfl,by simp [zJ,zd],?_⟩
   refine Aq ?_
   exact fG
  refine zq (.inl rfl) ?_
  refine zq (.inl rfl) ?_
  refine zq (.inl rfl) ?_
  refine zq (.inl rfl) ?_
  refine tgA ?_
  refine zq (.inl rfl) ?_
  refine zq (.inl rfl) ?_
  refine zq (.inl rfl) ?_
  refine zq (.inl rfl) ?_
  refine tgA ?_
  refine zq (.inl rfl) ?_
  refine zq (.inl rfl) ?_
  refine zq (.inl rfl) ?_
  refine zq (.inl rfl) ?_
  refine zq (.inl rfl) ?_
  refine tgA ?_
  refine zK ⟨rfl,by simp [zJ,zd],?_⟩
  refine Aq ?_
  exact fG
 ·
  refine goA 0 ?_
  refine oC (fun c1=>?_) fun c1=>?_
  ·
   simp [ee] at c1
   refine Aq ?_
   exact fG
  simp [ee] at c1
  refine Aq ?_
  refine oPA h1 ?_
  refine goA 0 ?_
  refine oC (fun c2=>?_) fun c2=>?_
  ·
   simp [ee] at c2
   refine Aq ?_
   exact fG
  simp [ee] at c2
  refine Aq ?_
  refine zX rfl (by conv=>lhs;cbv) rfl ?_
  refine tgA ?_
  refine oPT h2 ?_
  refine tgA ?_
  refine oPT h3 ?_
  refine tgA ?_
  refine zn rfl ?_
  refine tgA ?_
  refine zn rfl ?_
  refine oPT h4 ?_
  refine tgA ?_
  refine oPT h5 ?_
  refine tgA ?_
  refine zK ⟨rfl,by simp [zJ,zd],?_⟩
  refine Aq ?_
  refine zX rfl (by conv=>lhs;cbv) rfl ?_
  refine tgA ?_
  refine oPT b1 ?_
  refine tgA ?_
  refine zn rfl ?_
  refine tgA ?_
  refine zn rfl ?_
  refine tgA ?_
  refine zn rfl ?_
  refine tgA ?_
  refine zn rfl ?_
  refine oPT b2 ?_
  refine tgA ?_
  refine zn rfl ?_
  refine tgA ?_
  refine zn rfl ?_
  refine tgA ?_
  refine zn rfl ?_
  refine tgA ?_
  refine zn rfl ?_
  refine oPT b3t ?_
  refine tgA ?_
  cases d3
  ·
   refine zn rfl ?_
   refine tgA ?_
   refine zn rfl ?_
   refine oPT h4 ?_
   refine zn rfl ?_
   refine tgA ?_
   refine zn rfl ?_
   refine tgA ?_
   refine zn rfl ?_
   refine oPT b4 ?_
   refine tgA ?_
   refine zK ⟨rfl,by simp [zJ,zd],?_⟩
   refine goA 0 ?_
   refine oC (fun c3=>?_) fun c3=>?_
   ·
    refine Aq ?_
    exact fG
   refine goA 0 ?_
   refine goA 1 ?_
   refine nsB hX (by conv=>lhs;cbv) ?_
   refine goA 0 ?_
   refine nsB hX (by conv=>lhs;cbv) ?_
   refine goA 0 ?_
   refine zG rfl rfl (fun c4=>?_) (fun c4=>?_)
   ·
    simp [ee] at c4
    refine Aq ?_
    refine zZ rfl rfl ?_
    refine Aq ?_
    refine zZ rfl rfl ?_
    refine Aq ?_
    exact fG
   simp [ee] at c4
   refine Aq ?_
   refine oPG h4 ?_
   refine goA 0 ?_
   refine goA 1 ?_
   refine goA 1 ?_
   refine nsB hX (by conv=>lhs;cbv) ?_
   refine goA 0 ?_
   refine zG rfl rfl (fun c5=>?_) (fun c5=>?_)
   ·
    simp [ee] at c5
   simp [ee] at c5
   refine goA 1 ?_
   refine goA 1 ?_
   refine goA 1 ?_
   refine zG rfl rfl (fun c6=>?_) (fun c6=>?_)
   ·
    simp [ee] at c6
    refine Aq ?_
    refine vT rfl rfl h7 rfl ⟨[.gone],⟨trivial,trivial⟩,⟨.cl hccl,.agg' ⟨.refl _,.nilI _,.refl _,.refl _,.refl _,.refl _,.refl _,.refl _,trivial⟩,trivial⟩⟩ ?_
    refine goA 0 ?_
    refine goA 1 ?_
    refine oC (fun c7=>?_) fun c7=>?_
    ·
     simp [ee] at c7
     refine Aq ?_
     exact fG
    simp [ee] at c7
    refine Aq ?_
    exact fG
   simp [ee] at c6
  refine zq (.inl rfl) ?_
  refine zq (.inl rfl) ?_
  refine zq (.inl rfl) ?_
  refine zq (.inl rfl) ?_
  refine zq (.inl rfl) ?_
  refine tgA ?_
  refine zK ⟨rfl,by simp [zJ,zd],?_⟩
  refine Aq ?_
  exact fG
 ·
  refine goA 0 ?_
  refine oC (fun c1=>?_) fun c1=>?_
  ·
   simp [ee] at c1
   refine Aq ?_
   exact fG
  simp [ee] at c1
  refine Aq ?_
  refine oPA h1 ?_
  refine goA 0 ?_
  refine oC (fun c2=>?_) fun c2=>?_
  ·
   simp [ee] at c2
   refine Aq ?_
   exact fG
  simp [ee] at c2
  refine Aq ?_
  refine zX rfl (by conv=>lhs;cbv) rfl ?_
  refine tgA ?_
  refine oPT h2 ?_
  refine tgA ?_
  refine oPT h3 ?_
  refine tgA ?_
  refine zn rfl ?_
  refine tgA ?_
  refine zn rfl ?_
  refine oPT h4 ?_
  refine tgA ?_
  refine oPT h5 ?_
  refine tgA ?_
  refine zK ⟨rfl,by simp [zJ,zd],?_⟩
  refine Aq ?_
  refine zX rfl (by conv=>lhs;cbv) rfl ?_
  refine tgA ?_
  refine oPT b1 ?_
  refine tgA ?_
  refine zn rfl ?_
  refine tgA ?_
  refine zn rfl ?_
  refine tgA ?_
  refine zn rfl ?_
  refine tgA ?_
  refine zn rfl ?_
  refine oPT b2 ?_
  refine tgA ?_
  refine zn rfl ?_
  refine tgA ?_
  refine zn rfl ?_
  refine tgA ?_
  refine zn rfl ?_
  refine tgA ?_
  refine zn rfl ?_
  refine oPT b3f ?_
  refine tgA ?_
  refine zn rfl ?_
  refine tgA ?_
  refine zn rfl ?_
  refine oPT h4 ?_
  refine zn rfl ?_
  refine tgA ?_
  refine zn rfl ?_
  refine tgA ?_
  refine zn rfl ?_
  refine oPT b4 ?_
  refine tgA ?_
  refine zK ⟨rfl,by simp [zJ,zd],?_⟩
  refine Aq ?_
  refine oPA h6 ?_
  refine goA 0 ?_
  refine oC (fun c3=>?_) fun c3=>?_
  ·
   simp [ee] at c3
   refine Aq ?_
   exact fG
  simp [ee] at c3
  refine goA 0 ?_
  refine nsB hX (by conv=>lhs;cbv) ?_
  refine goA 0 ?_
  refine nsB hX (by conv=>lhs;cbv) ?_
  refine goA 0 ?_
  refine zG rfl rfl (fun c4=>?_) (fun c4=>?_)
  ·
   simp [ee] at c4
   refine Aq ?_
   refine zZ rfl rfl ?_
   refine Aq ?_
   refine zZ rfl rfl ?_
   refine Aq ?_
   exact fG
  simp [ee] at c4
  refine Aq ?_
  refine oPG h4 ?_
  refine goA 0 ?_
  refine goA 1 ?_
  refine goA 1 ?_
  refine nsB hX (by conv=>lhs;cbv) ?_
  refine goA 0 ?_
  refine zG rfl rfl (fun c5=>?_) (fun c5=>?_)
  ·
   simp [ee] at c5
   refine Aq ?_
   refine zZ rfl rfl ?_
   refine Aq ?_
   exact fG
  simp [ee] at c5
  refine goA 1 ?_
  refine goA 1 ?_
  refine goA 1 ?_
  refine zG rfl rfl (fun c6=>?_) (fun c6=>?_)
  ·
   simp [ee] at c6
  simp [ee] at c6
  refine goA 1 ?_
  refine goA 1 ?_
  refine goA 1 ?_
  refine goA 1 ?_
  refine goA 1 ?_
  refine oC (fun c7=>?_) fun c7=>?_
  ·
   simp [ee] at c7
  simp [ee] at c7
  refine Aq ?_
  exact fG
 refine goA 0 ?_
 refine oC (fun c1=>?_) fun c1=>?_
 ·
  simp [ee] at c1
  refine Aq ?_
  exact fG
 simp [ee] at c1
 refine Aq ?_
 refine oPA h1 ?_
 refine goA 0 ?_
 refine oC (fun c2=>?_) fun c2=>?_
 ·
  simp [ee] at c2
  refine Aq ?_
  exact fG
 simp [ee] at c2
 refine Aq ?_
 refine zX rfl (by conv=>lhs;cbv) rfl ?_
 refine tgA ?_
 refine oPT h2 ?_
 refine tgA ?_
 refine oPT h3 ?_
 refine tgA ?_
 refine zn rfl ?_
 refine tgA ?_
 refine zn rfl ?_
 refine oPT h4 ?_
 refine tgA ?_
 refine oPT h5 ?_
 refine tgA ?_
 refine zK ⟨rfl,by simp [zJ,zd],?_⟩
 refine Aq ?_
 refine zX rfl (by conv=>lhs;cbv) rfl ?_
 refine tgA ?_
 refine oPT b1 ?_
 refine tgA ?_
 refine zn rfl ?_
 refine tgA ?_
 refine zn rfl ?_
 refine tgA ?_
 refine zn rfl ?_
 refine tgA ?_
 refine zn rfl ?_
 refine oPT b2 ?_
 refine tgA ?_
 refine zn rfl ?_
 refine tgA ?_
 refine zn rfl ?_
 refine tgA ?_
 refine zn rfl ?_
 refine tgA ?_
 refine zn rfl ?_
 refine oPT b3f ?_
 refine tgA ?_
 refine zn rfl ?_
 refine tgA ?_
 refine zn rfl ?_
 refine oPT h4 ?_
 refine zn rfl ?_
 refine tgA ?_
 refine zn rfl ?_
 refine tgA ?_
 refine zn rfl ?_
 refine oPT b4 ?_
 refine tgA ?_
 refine zK ⟨rfl,by simp [zJ,zd],?_⟩
 refine goA 0 ?_
 refine goA 1 ?_
 refine goA 1 ?_
 refine nsB hX (by conv=>lhs;cbv) ?_
 refine goA 0 ?_
 refine nsB hX (by conv=>lhs;cbv) ?_
 refine goA 0 ?_
 refine zG rfl rfl (fun c3=>?_) (fun c3=>?_)
 ·
  simp [ee] at c3
  refine Aq ?_
  refine zZ rfl rfl ?_
  refine Aq ?_
  refine zZ rfl rfl ?_
  refine Aq ?_
  exact fG
 simp [ee] at c3
 refine Aq ?_
 refine oPG h4 ?_
 refine goA 0 ?_
 refine goA 1 ?_
 refine goA 1 ?_
 refine nsB hX (by conv=>lhs;cbv) ?_
 refine goA 0 ?_
 refine zG rfl rfl (fun c4=>?_) (fun c4=>?_)
 ·
  simp [ee] at c4
  refine Aq ?_
  refine zZ rfl rfl ?_
  refine Aq ?_
  exact fG
 simp [ee] at c4
 refine goA 1 ?_
 refine goA 1 ?_
 refine goA 1 ?_
 refine zG rfl rfl (fun c5=>?_) (fun c5=>?_)
 ·
  simp [ee] at c5
  refine Aq ?_
  refine vT rfl rfl h7 rfl ⟨[.gone],⟨trivial,trivial⟩,⟨.cl hccl,.agg' ⟨.refl _,.nilI _,.refl _,.refl _,.refl _,.refl _,.refl _,.refl _,trivial⟩,trivial⟩⟩ ?_
  refine goA 0 ?_
  refine goA 1 ?_
  refine oC (fun c6=>?_) fun c6=>?_
  ·
   simp [ee] at c6
   refine Aq ?_
   exact fG
  simp [ee] at c6
  refine Aq ?_
  exact fG
 simp [ee] at c5
theorem P_ref09_CheckRest (p:Pat) (hs:p.Sm):PCall EE 90 [p.enc] (int p.chkR):=by
 have h1:=P_ref09_Total 64 (by decide) p hs
 have h2:=P_ref09_Depth p hs
 have h3:=P_ref09_Nodes p hs
 have htot:=Pat.tot_iff p 64
 have hnd:=hs.node
 have hcn:=cnt_node p
 have hcl:=Pat.closed p
 obtain ⟨R,hR⟩:∃ R,R=p.chkR:=⟨_,rfl⟩
 rw [← hR]
 unfold Pat.chkR at hR
 obtain ⟨tt,htt⟩:∃ z:Int,z=p.tot 64:=⟨_,rfl⟩
 obtain ⟨dp,hdp⟩:∃ z:Int,z=p.dep:=⟨_,rfl⟩
 rw [← htt] at h1
 rw [← hdp] at h2
 have hnl:=Pat.nodes_len p
 have hqn:p.cnt≤64→∀ q∈p.nodes,PCall EE 128 [q.enc] (int q.nodeE):=fun hc q hq=>P_ref09_node q (hnd q hq) (by
  have h1:=(hcn q hq).1
  obtain ⟨o,a,t,v,s,n,c⟩:=q
  have:=Pat.cntL_len a
  simp only [Pat.cnt,Pat.args] at h1 ⊢
  omega)
 have hnc:=Pat.closedI p.nodes
 generalize hnn:p.nodes=nl at *
 obtain ⟨pO,pA,pT,pV,pS,pN,pCo,pCa,pCv,pCf,pCk,pXk,pXn,pXt,hx⟩:=Pat.form p
 rw [hx] at h1 h2 h3 hcl ⊢
 refine zo ?_;unhygienic intros
 generalize hes:zy Pat.enc nl=es at *
 have hel:es.length=nl.length:=by rw [← hes,zp]
 refine fB T90 [.t 2] ?_
 by_cases g1:tt≤64
 rotate_left
 · have k1:iLt 64 tt=true:=by simp only [ee];simp;omega
   rw [if_pos (by omega)] at hR
   refine Aq ?_
   refine oPA h1 ?_
   have fz:=k1
   refine Cq ?_
   refine Aq ?_
   exact fI (h:=hR.symm)
 have k1:iLt 64 tt=false:=by simp only [ee];simp;omega
 rw [if_neg (by omega)] at hR
 have hqn:=hqn (by omega)
 by_cases g2:dp≤12
 rotate_left
 · have k2:iLt 12 dp=true:=by simp only [ee];simp;omega
   rw [if_pos (by omega)] at hR
   refine Aq ?_
   refine oPA h1 ?_
   have fz:=And.intro k1 k2
   refine Cq ?_
   refine Aq ?_
   refine oPA h2 ?_
   refine Cq ?_
   refine Aq ?_
   exact fI (h:=hR.symm)
 have k2:iLt 12 dp=false:=by simp only [ee];simp;omega
 rw [if_neg (by omega)] at hR
 refine Aq ?_
 refine oPA h1 ?_
 have fz:=And.intro k1 k2
 refine Cq ?_
 refine Aq ?_
 refine oPA h2 ?_
 refine Cq ?_
 refine Aq ?_
 refine oPA h3 ?_
 refine Aq ?_
 refine ze (ι:=List Pat × List Pat × Int) (fun p=>([(4,int p.2.2),(3,.isl 14 es)],[])) (fun p=>nl=p.1++p.2.1∧p.2.2=p.1.length∧R=zU Pat.nodeE p.2.1) (fun p=>p.2.1.length) ([],nl,0) ⟨rfl,rfl,hR⟩ ?_ ?_
 · exact (eS [.gone] [])
 rintro ⟨d,r,i⟩ ⟨g1,gi,gR⟩
 dsimp only at g1 gi gR ⊢
 cases r with
 | nil =>
  have L1:=lS g1
  have hc:iLt i (lenA es)=false:=xR e_iLt e_lenA (by omega)
  have gR:R=0:=gR
  have fz:=hc
  refine Cq ?_
  refine Aq ?_
  refine zk ?_
  refine Aq ?_
  exact fI (h:=gR.symm)
 | cons q r =>
  have L1:=lS g1
  have hc:iLt i (lenA es)=true:=xU e_iLt e_lenA (by omega)
  have hat:=yX e_atA hes g1 gi
  have hq:=hqn q (by rw [g1];simp)
  have hqc:=Pat.closed q
  rw [zU] at gR
  obtain ⟨qO,qA,qT,qV,qS,qN,qCo,qCa,qCv,qCf,qCk,qXk,qXn,qXt,hy⟩:=Pat.form q
  rw [hy] at hat hqc hq
  have hi2:iAdd .i64 i 1=((d++[q]).length:Int):=by rw [List.length_append];exact yh e_iAdd gi (by omega)
  generalize q.nodeE=fq at *
  by_cases h2:fq=0
  · have w2:iNe fq 0=false:=by simp only [ee];simpa using h2
    rw [if_neg (by simpa using h2)] at gR
    have fz:=And.intro hc (And.intro hat w2)
    refine Cq ?_
    refine Cr ?_
    refine oPA hq ?_
    refine Cq ?_
    refine Aq ?_
    refine zm (d++[q],r,iAdd .i64 i 1) ⟨by simp [g1],hi2,gR⟩ (by simp) (eS [] [])
  have w2:iNe fq 0=true:=by simp only [ee];simpa using h2
  rw [if_pos h2] at gR
  have fz:=And.intro hc (And.intro hat w2)
  refine Cq ?_
  refine Cr ?_
  refine oPA hq ?_
  refine Cq ?_
  refine Aq ?_
  refine zf ?_
  refine Aq ?_
  exact fI (h:=gR.symm)
def wd (l:List Pat):Bool:=l.all fun q=>decide (q.op<8)
theorem P_proper (nl:List Pat) (hlen:nl.length<1048577):PCall EE 91 [.isl 14 (zy Pat.enc nl)] (bool (wd nl)):=by
 obtain ⟨R,hR⟩:∃ R,R=wd nl:=⟨_,rfl⟩
 rw [← hR]
 have hnc:=Pat.closedI nl
 refine zo ?_;unhygienic intros
 generalize hes:zy Pat.enc nl=es at *
 have hel:es.length=nl.length:=by rw [← hes,zp]
 refine fB T91 [.t 2] ?_
 refine Aq ?_
 refine ze (ι:=List Pat × List Pat × Int) (fun p=>([(3,int p.2.2),(0,.isl 14 es)],[])) (fun p=>nl=p.1++p.2.1∧p.2.2=p.1.length∧R=wd p.2.1) (fun p=>p.2.1.length) ([],nl,0) ⟨rfl,rfl,hR⟩ ?_ ?_
 · exact (eS [] [])
 rintro ⟨d,r,i⟩ ⟨g1,gi,gR⟩
 dsimp only at g1 gi gR ⊢
 cases r with
 | nil =>
  have L1:=lS g1
  have hc:iLt i (lenA es)=false:=xR e_iLt e_lenA (by omega)
  have gR:R=true:=gR
  have fz:=hc
  refine Cq ?_
  refine Aq ?_
  refine zk ?_
  refine Aq ?_
  exact fBo (h:=gR.symm)
 | cons q r =>
  have L1:=lS g1
  have hc:iLt i (lenA es)=true:=xU e_iLt e_lenA (by omega)
  have hat:=yX e_atA hes g1 gi
  have gR:R=(decide (q.op<8) && wd r):=gR
  obtain ⟨qO,qA,qT,qV,qS,qN,qCo,qCa,qCv,qCf,qCk,qXk,qXn,qXt,hy,hyc,hqO,hqA,hqT,hqV,hqS,hqN⟩:=Pat.form2 q
  rw [hy] at hat
  rw [← hqO] at gR
  have hi2:iAdd .i64 i 1=((d++[q]).length:Int):=by rw [List.length_append];exact yh e_iAdd gi (by omega)
  by_cases h2:qO<8
  · have w2:iLe 8 qO=false:=by simp only [ee];simp;omega
    have gR:R=wd r:=by rw [gR];simp [h2]
    have fz:=And.intro hc (And.intro hat w2)
    refine Cq ?_
    refine Cr ?_
    refine Aq ?_
    refine zm (d++[q],r,iAdd .i64 i 1) ⟨by simp [g1],hi2,gR⟩ (by simp) (eS [] [])
  have w2:iLe 8 qO=true:=by simp only [ee];simp;omega
  have gR:R=false:=by rw [gR];simp [h2]
  have fz:=And.intro hc (And.intro hat w2)
  refine Cq ?_
  refine Cr ?_
  refine Aq ?_
  refine zf ?_
  refine Aq ?_
  exact fBo (h:=gR.symm)
theorem proper_first (l:List Pat):zU (fun q:Pat=>if 8≤q.op then 1 else 0) l=if wd l=true then 0 else 1:=by
 induction l with
 | nil=>rfl
 | cons q r ih =>
  rw [zU]
  by_cases h:8≤q.op
  · rw [if_pos h,if_pos (by decide),if_neg (by simp [wd];omega)]
  rw [if_neg h,if_neg (by decide),ih]
  have:wd (q :: r)=wd r:=by simp [wd];omega
  rw [this]
theorem Pat.chk_red (p:Pat):p.chk=if p.chkR≠0 then p.chkR else if wd p.nodes=false then 1 else if (yu p.nodes).2.2=true then 0 else 14:=by
 unfold Pat.chk Pat.wholeE
 rw [proper_first]
 by_cases h:p.chkR=0
 · simp only [h,ne_eq,not_true_eq_false,if_false]
   cases wd p.nodes<;>simp
 simp [h]
theorem P_ref09_Check (p:Pat) (hs:p.Sm):PCall EE 45 [p.enc] (int p.chk):=by
 have h1:=P_ref09_CheckRest p hs
 have h2:=P_ref09_Nodes p hs
 have hcl:=Pat.closed p
 obtain ⟨R,hR⟩:∃ R,R=p.chk:=⟨_,rfl⟩
 rw [← hR]
 rw [Pat.chk_red] at hR
 have hnl:=Pat.nodes_len p
 have hs1:=hs.1
 have hnc:=Pat.closedI p.nodes
 have h3:=P_proper p.nodes (by omega)
 generalize hnn:p.nodes=nl at *
 generalize p.chkR=ck at *
 generalize wd nl=pr at *
 obtain ⟨pO,pA,pT,pV,pS,pN,pCo,pCa,pCv,pCf,pCk,pXk,pXn,pXt,hx⟩:=Pat.form p
 rw [hx] at h1 h2 hcl ⊢
 refine zo ?_;unhygienic intros
 generalize hes:zy Pat.enc nl=es at *
 have hel:es.length=nl.length:=by rw [← hes,zp]
 have n0:bNot false=true:=by simp only [ee];rfl
 have n1:bNot true=false:=by simp only [ee];rfl
 refine fB T45 [.t 2] ?_
 by_cases g1:ck=0
 rotate_left
 · have k1:iNe ck 0=true:=by simp only [ee];simpa using g1
   rw [if_pos g1] at hR
   refine Aq ?_
   refine oPA h1 ?_
   have fz:=k1
   refine Cq ?_
   refine Aq ?_
   exact fI (h:=hR.symm)
 have k1:iNe ck 0=false:=by simp only [ee];simpa using g1
 rw [if_neg (by simpa using g1)] at hR
 cases pr with
 | false =>
  rw [if_pos rfl] at hR
  refine Aq ?_
  refine oPA h1 ?_
  have fz:=And.intro k1 n0
  refine Cq ?_
  refine Aq ?_
  refine oPA h2 ?_
  refine Aq ?_
  refine oPA h3 ?_
  refine Cq ?_
  refine Aq ?_
  exact fI (h:=hR.symm)
 | true =>
 rw [if_neg (by decide)] at hR
 refine Aq ?_
 refine oPA h1 ?_
 have fz:=And.intro k1 n1
 refine Cq ?_
 refine Aq ?_
 refine oPA h2 ?_
 refine Aq ?_
 refine oPA h3 ?_
 refine Cq ?_
 refine Aq ?_
 refine ze (ι:=List Pat × List Pat × Int × Int × Int) (fun p=>([(7,int p.2.2.1),(4,.isl 14 es),(5,int p.2.2.2.1),(6,int p.2.2.2.2)],[])) (fun p=>nl=p.1++p.2.1∧p.2.2.1=p.1.length∧p.2.2.2.1=(yu p.1).1∧p.2.2.2.2=(yu p.1).2.1∧(yu p.1).2.2=true) (fun p=>p.2.1.length) ([],nl,0,0,0) ⟨rfl,rfl,rfl,rfl,rfl⟩ ?_ ?_
 · exact (eS [.gone] [])
 rintro ⟨d,r,i,vs,sc⟩ ⟨g1,gi,gv,gs,gok⟩
 dsimp only at g1 gi gv gs gok ⊢
 cases r with
 | nil =>
  have L1:=lS g1
  have hc:iLt i (lenA es)=false:=xR e_iLt e_lenA (by omega)
  rw [List.append_nil] at g1
  have gR:R=0:=by rw [hR,g1,if_pos gok]
  have fz:=hc
  refine Cq ?_
  refine Aq ?_
  refine zk ?_
  refine Aq ?_
  exact fI (h:=gR.symm)
 | cons q r =>
  have L1:=lS g1
  have hc:iLt i (lenA es)=true:=xU e_iLt e_lenA (by omega)
  have hat:=yX e_atA hes g1 gi
  have hb:=cfold_bd d
  have hbad:(yu (d++[q])).2.2=false→R=14:=fun h=>by
   rw [hR,if_neg]
   intro hh
   rw [g1,show d++q :: r=(d++[q])++r by simp] at hh
   rw [cfold_pre _ _ hh] at h;cases h
  have e1:(yu (d++[q])).1=_:=congrArg (fun s=>s.1) (vc d q)
  have e2:(yu (d++[q])).2.1=_:=congrArg (fun s=>s.2.1) (vc d q)
  have e3:(yu (d++[q])).2.2=_:=congrArg (fun s=>s.2.2) (vc d q)
  dsimp only [wu] at e1 e2 e3
  rw [gok,← gv,← gs] at e3
  rw [← gv] at e1
  rw [← gs] at e2
  have q1:=P_variable q
  have q2:=P_Negates q
  have q3:=P_Times q
  have hor:=scopeF_or q.op
  generalize xw q.op=sf at *
  generalize yg q.op=tf at *
  generalize decide (q.op=5∨q.op=9)=ng at *
  generalize xa q.op=sp at *
  have hqc:=Pat.closed q
  obtain ⟨qO,qA,qT,qV,qS,qN,qCo,qCa,qCv,qCf,qCk,qXk,qXn,qXt,hy,hyc,hqO,hqA,hqT,hqV,hqS,hqN⟩:=Pat.form2 q
  rw [hy] at hat hqc q1 q2 q3
  rw [← hqV] at e3
  rw [← hqS] at e3
  have hi2:iAdd .i64 i 1=((d++[q]).length:Int):=by rw [List.length_append];exact yh e_iAdd gi (by omega)
  have a1:iAdd .i64 vs 1=vs+1:=uh e_iAdd (by omega) (by omega)
  have a2:iAdd .i64 sc 1=sc+1:=uh e_iAdd (by omega) (by omega)
  clear hy hyc hqO hqA hqT hqV hqS hqN hR gok gv gs hb
  have fz:=And.intro hc hat
  refine Cq ?_
  refine Cr ?_
  refine oPA q1 ?_
  refine Cq ?_
  refine oC (fun c1=>?_) fun c1=>?_
  ·
   refine Cq ?_
   refine oC (fun c2=>?_) fun c2=>?_
   ·
    simp [ee] at c2
    refine Aq ?_
    refine zf ?_
    refine Aq ?_
    exact fI (h:=(Eq.symm (hbad (by clear ee hX;grind))))
   simp [ee] at c2
   refine Cq ?_
   refine oPA q2 ?_
   refine Cq ?_
   refine zG rfl rfl (fun c3=>?_) (fun c3=>?_)
   ·
    refine Cr ?_
    refine Cr ?_
    refine Cr ?_
    refine Cr ?_
    refine Cr ?_
    refine Cr ?_
    refine oC (fun c4=>?_) fun c4=>?_
    ·
     simp [ee] at c4
     refine Aq ?_
     refine zf ?_
     refine Aq ?_
     exact fI (h:=(Eq.symm (hbad (by clear ee hX;grind))))
    simp [ee] at c4
    refine Aq ?_
    refine zm (d++[q],r,iAdd .i64 i 1,iAdd .i64 vs 1,iAdd .i64 sc 1) ⟨by simp [g1],hi2,by clear ee hX;grind,by clear ee hX;grind,by clear ee hX;grind⟩ (by simp) (eS [] [])
   refine Cr ?_
   refine Cr ?_
   refine Cr ?_
   refine Aq ?_
   refine oPG q3 ?_
   refine Cq ?_
   refine oC (fun c5=>?_) fun c5=>?_
   ·
    refine Cq ?_
    refine oC (fun c6=>?_) fun c6=>?_
    ·
     simp [ee] at c6
     refine Aq ?_
     refine zf ?_
     refine Aq ?_
     exact fI (h:=(Eq.symm (hbad (by clear ee hX;grind))))
    simp [ee] at c6
    refine Aq ?_
    refine zm (d++[q],r,iAdd .i64 i 1,iAdd .i64 vs 1,iAdd .i64 sc 1) ⟨by simp [g1],hi2,by clear ee hX;grind,by clear ee hX;grind,by clear ee hX;grind⟩ (by simp) (eS [] [])
   refine Aq ?_
   refine zm (d++[q],r,iAdd .i64 i 1,iAdd .i64 vs 1,sc) ⟨by simp [g1],hi2,by clear ee hX;grind,by clear ee hX;grind,by clear ee hX;grind⟩ (by simp) (eS [] [])
  refine Cq ?_
  refine oPA q2 ?_
  refine Cq ?_
  refine zG rfl rfl (fun c7=>?_) (fun c7=>?_)
  ·
   refine Cr ?_
   refine Cr ?_
   refine Cr ?_
   refine Cr ?_
   refine Cr ?_
   refine Cr ?_
   refine oC (fun c8=>?_) fun c8=>?_
   ·
    simp [ee] at c8
    refine Aq ?_
    refine zf ?_
    refine Aq ?_
    exact fI (h:=(Eq.symm (hbad (by clear ee hX;grind))))
   simp [ee] at c8
   refine Aq ?_
   refine zm (d++[q],r,iAdd .i64 i 1,vs,iAdd .i64 sc 1) ⟨by simp [g1],hi2,by clear ee hX;grind,by clear ee hX;grind,by clear ee hX;grind⟩ (by simp) (eS [] [])
  refine Cr ?_
  refine Cr ?_
  refine Cr ?_
  refine Aq ?_
  refine oPG q3 ?_
  refine Cq ?_
  refine oC (fun c9=>?_) fun c9=>?_
  ·
   refine Cq ?_
   refine oC (fun c10=>?_) fun c10=>?_
   ·
    simp [ee] at c10
    refine Aq ?_
    refine zf ?_
    refine Aq ?_
    exact fI (h:=(Eq.symm (hbad (by clear ee hX;grind))))
   simp [ee] at c10
   refine Aq ?_
   refine zm (d++[q],r,iAdd .i64 i 1,vs,iAdd .i64 sc 1) ⟨by simp [g1],hi2,by clear ee hX;grind,by clear ee hX;grind,by clear ee hX;grind⟩ (by simp) (eS [] [])
  refine Aq ?_
  refine zm (d++[q],r,iAdd .i64 i 1,vs,sc) ⟨by simp [g1],hi2,by clear ee hX;grind,by clear ee hX;grind,by clear ee hX;grind⟩ (by simp) (eS [] [])
noncomputable def Pat.nVars (p:Pat):Int:=if p.chk=0 then (yu p.nodes).1 else 0
noncomputable def Pat.nScs (p:Pat):Int:=if p.chk=0 then (yu p.nodes).2.1 else 0
theorem P_pattern_Count (p:Pat) (hs:p.Sm):PCall EE 130 [p.enc] (.tup [int p.nVars,int p.nScs,int p.chk]):=by
 have h1:=P_pattern_Check p hs
 have h2:=fun h:p.chk=0=>P_count p hs fun q hq=>nodeE_op ((wholeE_ok (chk_zero h).1).2.1 q hq)
 have hcl:=Pat.closed p
 obtain ⟨A,hA⟩:∃ R,R=p.nVars:=⟨_,rfl⟩
 obtain ⟨B,hB⟩:∃ R,R=p.nScs:=⟨_,rfl⟩
 rw [← hA,← hB]
 unfold Pat.nVars at hA
 unfold Pat.nScs at hB
 generalize p.chk=ck at *
 generalize (yu p.nodes).1=c1 at *
 generalize (yu p.nodes).2.1=c2 at *
 generalize (yu p.nodes).2.2=c3 at *
 obtain ⟨pO,pA,pT,pV,pS,pN,pCo,pCa,pCv,pCf,pCk,pXk,pXn,pXt,hx⟩:=Pat.form p
 rw [hx] at h1 h2 hcl ⊢
 refine zo ?_;unhygienic intros
 refine fB T130 [.t 2,.t 3,.t 4] ?_
 by_cases g1:ck=0
 · have k1:iNe ck 0=false:=by simp only [ee];simpa using g1
   have h2:=h2 g1
   rw [if_pos g1] at hA hB
   rw [hA,hB,g1]
   rw [g1] at h1 k1
   refine Aq ?_
   refine oPA h1 ?_
   have fz:=k1
   refine Cq ?_
   refine Aq ?_
   refine oPA h2 ?_
   refine Aq ?_
   exact fE [.gone]
 have k1:iNe ck 0=true:=by simp only [ee];simpa using g1
 rw [if_neg g1] at hA hB
 rw [hA,hB]
 refine Aq ?_
 refine oPA h1 ?_
 have fz:=k1
 refine Cq ?_
 refine Aq ?_
 exact fE [.gone]
end Go.Am
end
section
set_option maxHeartbeats 16000000
namespace Go.Am
noncomputable def toC (l R:List Pat) (i:Nat) (x:Ed):Ed:={ x with frm:=i,to:=if 0≤x.to then x9 0 l (R.getD x.to.toNat Pat0) else x.to }
noncomputable def vH (l:List Pat) (i:Nat) (p:Pat):List Ed :=
 match p.der with
 | none=>[]
 | some S=>S.1.map (toC l S.2 i)
noncomputable def vl (l:List Pat):Nat→List Pat→List (List Ed)
 | _,[]=>[]
 | i,p :: r=>vH l i p :: vl l (i+1) r
noncomputable def sH (p:Pat) (l:List Pat):Au:=⟨p.nVars,p.nScs,l.map Pat.act,(vl l 0 l).flatten⟩
noncomputable def Pat.cmp (p:Pat):Option (Au × List Pat) :=
 match p.res with
 | none=>none
 | some l=>if 2048<(sH p l).edges.length then none else some (sH p l,l)
def uE (p:Pat):Bool:=decide (p.op=0)
def nEv : List Pat→Nat
 | []=>0
 | q :: r=>if uE q then nEv r+1 else 0
theorem t7 : ∀ l:List Pat,nEv l≤l.length
 | []=>Nat.le_refl _
 | q :: r=>by
  rw [nEv];split
  · have:=t7 r;simp;omega
  simp
def Pat.pre (p:Pat):List Pat:=if p.op=0 then [p] else if p.op≠1 then [] else p.args.take (nEv p.args)
def Pat.rst (p:Pat):Pat :=
 if p.op=0 then Pat0 else if p.op≠1 then p
 else if nEv p.args=p.args.length then Pat0 else if nEv p.args=0 then p
 else xM 1 (p.args.drop (nEv p.args))
def Pat.whl (p:Pat):Bool:=if p.op=0 then true else if p.op≠1 then false else decide (nEv p.args=p.args.length)
end Go.Am
end
noncomputable section
set_option maxHeartbeats 16000000
set_option maxRecDepth 100000
namespace Go.Am
open Go.Proofs
theorem w6 (p:Pat):(AV.iptr p.enc.cells).closed=true:=by
 obtain ⟨pO,pA,pT,pV,pS,pN,pCo,pCa,pCv,pCf,pCk,pXk,pXn,pXt,hx⟩:=Pat.form p
 have:=Pat.closed p
 rw [hx] at this ⊢
 simpa [AV.cells,AV.closed,AV.closedL] using this
theorem P_pairs0 (p:Pat) (h:p.op=0):PCall EE 172 [p.enc] (.fn 186 [.iptr p.enc.cells]):=by
 have hcl:=Pat.closed p
 obtain ⟨pO,pA,pT,pV,pS,pN,pCo,pCa,pCv,pCf,pCk,pXk,pXn,pXt,hx,hxc,hpO,hpA,hpT,hpV,hpS,hpN⟩:=Pat.form2 p
 rw [hx] at hcl ⊢
 dsimp only [AV.cells]
 have kcl:AV.closedL [int pO,.isl 14 pA,int pT,int pV,int pS,int pN,int pCo,.isl 8 pCa,int pCv,int pCf,int pCk,int pXk,int pXn,str pXt]=true:=by simpa only [AV.closed] using hcl
 refine zo ?_;unhygienic intros
 have n0:iEq pO 0=true:=by simp only [ee];simp [hpO,h]
 refine fB T172 [.t 2] ?_
 have fz:=n0
 refine Cq ?_
 refine goC 60 ?_
 refine zP rfl rfl ?_
 exact ⟨[.icells [int pO,.isl 14 pA,int pT,int pV,int pS,int pN,int pCo,.isl 8 pCa,int pCv,int pCf,int pCk,int pXk,int pXn,str pXt]],⟨⟨_,rfl,(zw _ kcl).symm⟩,trivial⟩,.refl _⟩
theorem P_pairs1 (p:Pat) (h:p.op=1∨p.op=2∨p.op=3):PCall EE 172 [p.enc] (.fn 198 [.iptr p.enc.cells]):=by
 have hb:=P_branches p
 have hcl:=Pat.closed p
 obtain ⟨pO,pA,pT,pV,pS,pN,pCo,pCa,pCv,pCf,pCk,pXk,pXn,pXt,hx,hxc,hpO,hpA,hpT,hpV,hpS,hpN⟩:=Pat.form2 p
 rw [hx] at hcl hb ⊢
 dsimp only [AV.cells] at hb ⊢
 have kcl:AV.closedL [int pO,.isl 14 pA,int pT,int pV,int pS,int pN,int pCo,.isl 8 pCa,int pCv,int pCf,int pCk,int pXk,int pXn,str pXt]=true:=by simpa only [AV.closed] using hcl
 have kI:(AV.fn 198 [.iptr [int pO,.isl 14 pA,int pT,int pV,int pS,int pN,int pCo,.isl 8 pCa,int pCv,int pCf,int pCk,int pXk,int pXn,str pXt]]).closed=true:=by simpa [AV.closed,AV.closedL] using kcl
 refine zo ?_;unhygienic intros
 have n0:iEq pO 0=false:=by simp only [ee];simp [hpO];omega
 refine fB T172 [.t 2] ?_
 have fz:=n0
 refine Cq ?_
 refine Cr ?_
 by_cases h1:p.op=1
 · have n1:iEq pO 1=true:=by simp only [ee];simp [hpO,h1]
   have fz:=n1
   refine Cq ?_
   refine goC 60 ?_
   refine zh (args:=[.agg [int pO,.isl 14 pA,int pT,int pV,int pS,int pN,int pCo,.isl 8 pCa,int pCv,int pCf,int pCk,int pXk,int pXn,str pXt]]) rfl rfl rfl hb (zg hcl) ?_
   refine Aq ?_
   refine zP rfl rfl ?_
   exact tu rfl kI
 have n1:iEq pO 1=false:=by simp only [ee];simp [hpO];omega
 have fz:=n1
 refine Cq ?_
 refine Cr ?_
 by_cases h2:p.op=2
 · have n2:iEq pO 2=true:=by simp only [ee];simp [hpO,h2]
   have fz:=n2
   refine Cq ?_
   refine goC 60 ?_
   refine zh (args:=[.agg [int pO,.isl 14 pA,int pT,int pV,int pS,int pN,int pCo,.isl 8 pCa,int pCv,int pCf,int pCk,int pXk,int pXn,str pXt]]) rfl rfl rfl hb (zg hcl) ?_
   refine Aq ?_
   refine zP rfl rfl ?_
   exact tu rfl kI
 have n2:iEq pO 2=false:=by simp only [ee];simp [hpO];omega
 have n3:iEq pO 3=true:=by simp only [ee];simp [hpO];omega
 have fz:=n2
 refine Cq ?_
 have fz:=And.intro n2 n3
 refine Cr ?_
 refine goC 60 ?_
 refine zh (args:=[.agg [int pO,.isl 14 pA,int pT,int pV,int pS,int pN,int pCo,.isl 8 pCa,int pCv,int pCf,int pCk,int pXk,int pXn,str pXt]]) rfl rfl rfl hb (zg hcl) ?_
 refine Aq ?_
 refine zP rfl rfl ?_
 exact tu rfl kI
theorem P_pairs4 (p q:Pat) (r:List Pat) (h:p.op=4) (ha:p.args=q :: r):PCall EE 172 [p.enc] (.fn 201 [.iptr q.enc.cells,.iptr p.enc.cells]):=by
 have hb:=P_repeated q p
 have hcl:=Pat.closed p
 have kq:=Pat.closed q
 have k1:=w6 p
 have k2:=w6 q
 obtain ⟨pO,pA,pT,pV,pS,pN,pCo,pCa,pCv,pCf,pCk,pXk,pXn,pXt,hx,hxc,hpO,hpA,hpT,hpV,hpS,hpN⟩:=Pat.form2 p
 have hpl:pA.length=p.args.length:=by rw [hpA,zp]
 have hpos:0<pA.length:=by rw [hpl,ha];simp
 have hat0:pA[0]? = some q.enc:=by rw [hpA,ha,zu];rfl
 obtain ⟨qO,qA,qT,qV,qS,qN,qCo,qCa,qCv,qCf,qCk,qXk,qXn,qXt,hy⟩:=Pat.form q
 rw [hx] at hcl hb k1 ⊢
 rw [hy] at hat0 hb kq k2 ⊢
 dsimp only [AV.cells] at hb k1 k2 ⊢
 have kI:(AV.fn 201 [.iptr [int qO,.isl 14 qA,int qT,int qV,int qS,int qN,int qCo,.isl 8 qCa,int qCv,int qCf,int qCk,int qXk,int qXn,str qXt],.iptr [int pO,.isl 14 pA,int pT,int pV,int pS,int pN,int pCo,.isl 8 pCa,int pCv,int pCf,int pCk,int pXk,int pXn,str pXt]]).closed=true:=by
  simp only [AV.closed,AV.closedL,Bool.and_true,Bool.and_eq_true] at k1 k2 ⊢
  exact ⟨k2,k1⟩
 refine zo ?_;unhygienic intros
 have hat:atA pA 0=.agg [int qO,.isl 14 qA,int qT,int qV,int qS,int qN,int qCo,.isl 8 qCa,int qCv,int qCf,int qCk,int qXk,int qXn,str qXt]:=by simp only [ee];simp [List.getD_eq_getElem?_getD,hat0]
 have n0:iEq pO 0=false:=by simp only [ee];simp [hpO];omega
 have n1:iEq pO 1=false:=by simp only [ee];simp [hpO];omega
 have n2:iEq pO 2=false:=by simp only [ee];simp [hpO];omega
 have n3:iEq pO 3=false:=by simp only [ee];simp [hpO];omega
 have n4:iEq pO 4=true:=by simp only [ee];simp [hpO];omega
 refine fB T172 [.t 2] ?_
 have fz:=n0
 refine Cq ?_
 refine Cr ?_
 have fz:=n1
 refine Cq ?_
 refine Cr ?_
 have fz:=n2
 refine Cq ?_
 refine Cr ?_
 have fz:=n3
 refine Cq ?_
 refine Cr ?_
 have fz:=n4
 refine Cq ?_
 have fz:=And.intro n4 hat
 refine Cr ?_
 refine zX rfl (by conv=>lhs;cbv) rfl ?_
 have fz:=hat
 refine tgC ?_
 refine xL (args:=[.agg [int qO,.isl 14 qA,int qT,int qV,int qS,int qN,int qCo,.isl 8 qCa,int qCv,int qCf,int qCk,int qXk,int qXn,str qXt],.agg [int pO,.isl 14 pA,int pT,int pV,int pS,int pN,int pCo,.isl 8 pCa,int pCv,int pCf,int pCk,int pXk,int pXn,str pXt]]) rfl rfl rfl hb (by rw [AV.closedL,AV.closedL,AV.closedL,kq,hcl];rfl) ?_
 refine tgA ?_
 refine zK ⟨rfl,?_,?_⟩
 · simp only [zJ,zd,List.cons_append,List.nil_append,List.append_nil];and_intros<;>first | trivial | (intro hp;first | rfl | exact absurd (show false=true from hp) Bool.false_ne_true)
 refine Aq ?_
 refine zP rfl rfl ?_
 exact tu rfl kI
def PrsT (p:Pat):Prop:=∃ g cs,AV.closedL cs=true∧PCall EE 172 [p.enc] (.fn g cs)∧XCall EE.P EE.G g cs (p.outs.map wM)
theorem PrsT.ev {p:Pat} (h:p.op=0):PrsT p:=⟨_,_,zg (w6 p),P_pairs0 p h,X_event p h⟩
theorem PrsT.br {p:Pat} (pjn:p.op=3→PjnT) (h:p.op=1∨p.op=2∨p.op=3) (hl:p.args.length<900000) (ha:∀ q∈p.args,PrsT q):PrsT p :=
 ⟨_,_,zg (w6 p),P_pairs1 p h,X_branches p pjn h hl ha⟩
theorem PrsT.plus0 {p q:Pat} (h:p.op=4) (ha:p.args=[q]) (hq:PrsT q) (hd:∀ y∈q.outs,y.2=none):PrsT p:=by
 obtain ⟨g,cs,hcs,pq,xq⟩:=hq
 have ho:p.outs=q.outs.flatMap (tH p):=by
  rw [Pat.outs_eq,tD,if_neg (by omega),if_neg (by omega),if_neg (by omega),if_neg (by omega),if_pos h,ha];rfl
 refine ⟨_,_,?_,P_pairs4 p q [] h ha,?_⟩
 · have:=w6 p
   have h2:=w6 q
   rw [AV.closedL,h2,AV.closedL,this];rfl
 rw [ho]
 exact X_repeated0 q p hd g cs hcs pq xq
theorem vr : ∀ x y:Pat,x.Sm→PCall EE 16 [x.enc,y.enc] (bool (eqB x y)):=by
 refine Pat.ind ?_
 intro o a t v s n c ih y hs
 obtain ⟨o2,a2,t2,v2,s2,n2,c2⟩:=y
 have hlen:=hs.len
 have hih:∀ q∈a,∀ q2,PCall EE 16 [q.enc,q2.enc] (bool (eqB q q2)):=fun q hq q2=>ih q hq q2 (hs.arg hq)
 have hcs:=P_ref08_Same c c2 hs.cond
 have hcl:=Pat.closedI a
 have hcl2:=Pat.closedI a2
 have hcc:=Ex.closed c
 have hcc2:=Ex.closed c2
 obtain ⟨R,hR⟩:∃ R,R=eqB (Pat.mk o a t v s n c) (Pat.mk o2 a2 t2 v2 s2 n2 c2):=⟨_,rfl⟩
 have hRe:o=o2→t=t2→v=v2→s=s2→n=n2→c=c2→R=eqB a a2:=by
  rintro rfl rfl rfl rfl rfl rfl
  rw [hR]
  by_cases h:a=a2
  · rw [h,xF rfl,xF rfl]
  rw [xl h,xl (by simp [h])]
 have hRf:¬(o=o2∧t=t2∧v=v2∧s=s2∧n=n2∧c=c2∧a.length=a2.length)→R=false:=by
  intro h;rw [hR];refine xl fun h2=>h ?_
  simp only [Pat.mk.injEq] at h2
  obtain ⟨rfl,rfl,rfl,rfl,rfl,rfl,rfl⟩:=h2
  simp
 obtain ⟨B,hB⟩:∃ B,B=eqB c c2:=⟨_,rfl⟩
 have hB1:B=true→c=c2:=fun h=>eqB_iff.1 (hB ▸ h)
 have hB2:B=false→c≠c2:=fun h hc=>by rw [hB,xF hc] at h;cases h
 rw [← hB] at hcs
 rw [← hR]
 obtain ⟨cCo,cC,cv,cf,ck,cxk,cxn,cxt⟩:=c
 obtain ⟨dCo,dC,dv,df,dk,dxk,dxn,dxt⟩:=c2
 rw [Pat.enc_mk,Pat.enc_mk]
 rw [Ex.enc_mk] at hcc hcc2 hcs
 rw [Ex.enc_mk] at hcs
 dsimp only at hcc hcc2 hcs ⊢
 have hcC:=Ex.closedI cC
 have hcD:=Ex.closedI dC
 clear ih hs hR hB
 refine zo ?_;unhygienic intros
 generalize zy Ex.enc cC=cC' at *
 generalize zy Ex.enc dC=dC' at *
 generalize hes:zy Pat.enc a=es at *
 generalize hes2:zy Pat.enc a2=es2 at *
 have hel:es.length=a.length:=by rw [← hes,zp]
 have hel2:es2.length=a2.length:=by rw [← hes2,zp]
 have hor:∀ b,bOr false b=b:=by simp [ee]
 have hor2:∀ b,bOr b false=b:=by simp [ee]
 have hort:∀ b,bOr true b=true:=by simp [ee]
 have hne:∀ z,iNe z z=false:=by simp [ee]
 have hnt:bNot true=false:=by simp [ee]
 have hnf:bNot false=true:=by simp [ee]
 refine fB T16 [.t 4] ?_
 by_cases hd:o=o2∧t=t2∧v=v2∧s=s2∧n=n2
 rotate_left
 · have hR:R=false:=hRf (fun h=>hd ⟨h.1,h.2.1,h.2.2.1,h.2.2.2.1,h.2.2.2.2.1⟩)
   have hbig:bOr (bOr (bOr (bOr (iNe o o2) (iNe t t2)) (iNe v v2)) (iNe s s2)) (iNe n n2)=true:=by
    simp only [ee]
    simp only [Bool.or_eq_true,bne_iff_ne,ne_eq]
    by_cases h1:o=o2<;>by_cases h2:t=t2<;>by_cases h3:v=v2<;>by_cases h4:s=s2<;>by_cases h5:n=n2<;>simp_all
   have fz:=And.intro hbig (And.intro hor hort)
   refine Cq ?_
   refine Aq ?_
   refine zZ rfl rfl ?_
   refine Cq ?_
   refine Aq ?_
   exact fBo (h:=hR.symm)
 obtain ⟨rfl,rfl,rfl,rfl,rfl⟩:=hd
 cases B with
 | false =>
  have hR:R=false:=hRf (fun h=>hB2 rfl h.2.2.2.2.2.1)
  have fz:=And.intro hne (And.intro hor (And.intro hort hnf))
  refine Cq ?_
  refine Aq ?_
  refine oPG hcs ?_
  refine Cq ?_
  refine Aq ?_
  exact fBo (h:=hR.symm)
 | true =>
 have hRe:=hRe rfl rfl rfl rfl rfl (hB1 rfl)
 by_cases hl8:a.length=a2.length
 rotate_left
 · have hR:R=false:=hRf (fun h=>hl8 h.2.2.2.2.2.2)
   have hln:iNe (lenA es) (lenA es2)=true:=by simp only [ee];simp;omega
   have fz:=And.intro hne (And.intro hor (And.intro hort (And.intro hnt hln)))
   refine Cq ?_
   refine Aq ?_
   refine oPG hcs ?_
   refine Cq ?_
   refine Aq ?_
   exact fBo (h:=hR.symm)
 have hln:iNe (lenA es) (lenA es2)=false:=by simp only [ee];simp;omega
 have fz:=And.intro hne (And.intro hor (And.intro hort (And.intro hnt hln)))
 refine Cq ?_
 refine Aq ?_
 refine oPG hcs ?_
 refine Cq ?_
 refine Aq ?_
 refine ze (ι:=List Pat × List Pat × List Pat × List Pat × Int) (fun p=>([(5,int p.2.2.2.2),(2,.ptr 0 0),(3,.ptr 1 0)],[.cells [int o,.isl 14 es,int t,int v,int s,int n,int cCo,.isl 8 cC',int cv,int cf,int ck,int cxk,int cxn,str cxt],.cells [int o,.isl 14 es2,int t,int v,int s,int n,int dCo,.isl 8 dC',int dv,int df,int dk,int dxk,int dxn,str dxt]])) (fun p=>a=p.1++p.2.1∧a2=p.2.2.1++p.2.2.2.1∧p.2.2.2.2=p.1.length∧p.1=p.2.2.1) (fun p=>p.2.1.length) ([],a,[],a2,0) ⟨rfl,rfl,rfl,rfl⟩ ?_ ?_
 · exact (eS [.to 0,.to 1] [some 0,some 1])
 rintro ⟨d,r,d2,r2,i⟩ ⟨g1,g2,gi,gd⟩
 dsimp only at g1 g2 gi gd ⊢
 subst gd
 cases r with
 | nil =>
  have L1:=lS g1
  have hc:iLt i (lenA es)=false:=xR e_iLt e_lenA (by omega)
  have L2:=lS g2
  have hr2:r2=[]:=List.length_eq_zero_iff.1 (by omega)
  have hR:R=true:=by rw [hRe];exact xF (by rw [g1,g2,hr2])
  have fz:=hc
  refine Cq ?_
  refine Aq ?_
  refine zk ?_
  refine Aq ?_
  exact fBo (h:=hR.symm)
 | cons q r =>
  have L1:=lS g1
  have hc:iLt i (lenA es)=true:=xU e_iLt e_lenA (by omega)
  have hat:=yX e_atA hes g1 gi
  have L2:=lS g2
  cases r2 with
  | nil=>exfalso;simp at L2;omega
  | cons q2 r2 =>
   have hat2:=yX e_atA hes2 g2 gi
   have hq:=hih q (by rw [g1];simp) q2
   have hqc:=Pat.closed q
   have hqc2:=Pat.closed q2
   obtain ⟨qO,qA,qT,qV,qS,qN,qCo,qCa,qCv,qCf,qCk,qXk,qXn,qXt,hx⟩:=Pat.form q
   obtain ⟨q2O,q2A,q2T,q2V,q2S,q2N,q2Co,q2Ca,q2Cv,q2Cf,q2Ck,q2Xk,q2Xn,q2Xt,hx2⟩:=Pat.form q2
   rw [hx,hx2] at hq
   rw [hx] at hat hqc
   rw [hx2] at hat2 hqc2
   have hi2:iAdd .i64 i 1=((d++[q]).length:Int):=by rw [List.length_append];exact yh e_iAdd gi (by omega)
   by_cases hqq:q=q2
   · rw [xF hqq] at hq
     have fz:=And.intro hc (And.intro hat (And.intro hat2 hnt))
     refine Cq ?_
     refine Cr ?_
     refine zX rfl (by conv=>lhs;cbv) rfl ?_
     refine tgC ?_
     refine oPT hq ?_
     refine tgA ?_
     refine zK ⟨rfl,?_,?_⟩
     · simp only [zJ,zd,List.cons_append,List.nil_append,List.append_nil];and_intros<;>first | trivial | (intro hp;first | rfl | exact absurd (show false=true from hp) Bool.false_ne_true)
     refine Cq ?_
     refine Aq ?_
     refine zm (d++[q],r,d++[q2],r2,iAdd .i64 i 1) ⟨by simp [g1],by simp [g2],hi2,by simp [hqq]⟩ (by simp) (eS [.to 0,.to 1] [some 0,some 1])
   rw [xl hqq] at hq
   have hR:R=false:=by rw [hRe];exact xl (by rw [g1,g2];simp [hqq])
   have fz:=And.intro hc (And.intro hat (And.intro hat2 hnf))
   refine Cq ?_
   refine Cr ?_
   refine zX rfl (by conv=>lhs;cbv) rfl ?_
   refine tgC ?_
   refine oPT hq ?_
   refine tgA ?_
   refine zK ⟨rfl,?_,?_⟩
   · simp only [zJ,zd,List.cons_append,List.nil_append,List.append_nil];and_intros<;>first | trivial | (intro hp;first | rfl | exact absurd (show false=true from hp) Bool.false_ne_true)
   refine Cq ?_
   refine Aq ?_
   refine zf ?_
   refine Aq ?_
   exact fBo (h:=hR.symm)
end Go.Am
end
