/- Contracts of the program's functions. -/
import Derived.Test.YtpfnahcfnclgdaaGreatDoorProg
import Derived.Test.YtpfnahcfnclgdaaGreatDoorPCt5
import Derived.Test.YtpfnahcfnclgdaaGreatDoorPCt3
noncomputable section
set_option maxHeartbeats 16000000
set_option maxRecDepth 100000
namespace Go.Am
open Go.Proofs
theorem closed_fnI {cs:List AV} (f:FuncId) (h:AV.closedL cs=true):(AV.fn f [.iptr cs]).closed=true:=by
 simp only [AV.closed,AV.closedL,h];rfl
theorem idxP_F : ∀ (l:List Pat) (p:Pat) (i:Int),x9 i l p=yP (fun q=>eqB p q) l i
 | [],p,i=>rfl
 | q :: r,p,i=>by rw [x9,yP,idxP_F r p (i+1)]
theorem eqB_comm {α:Type} (a b:α):eqB a b=eqB b a:=by
 by_cases h:a=b
 · rw [h]
 rw [xl h,xl (fun e=>h e.symm)]
theorem idxP_F2 (l:List Pat) (p:Pat):x9 0 l p=yP (fun q=>eqB q p) l 0:=by
 rw [idxP_F]
 congr 1
 funext q
 exact eqB_comm p q
theorem P_index1 (q p:Pat) (hs:p.Sm):PCall EE 176 ([q.enc]++[.iptr p.enc.cells]) (bool (eqB p q)):=by
 have h1:=P_pattern_Same p q hs
 have hcl:=Pat.closed p
 have kq:=Pat.closed q
 obtain ⟨pO,pA,pT,pV,pS,pN,pCo,pCa,pCv,pCf,pCk,pXk,pXn,pXt,hx⟩:=Pat.form p
 obtain ⟨qO,qA,qT,qV,qS,qN,qCo,qCa,qCv,qCf,qCk,qXk,qXn,qXt,hy⟩:=Pat.form q
 rw [hx,hy] at h1
 rw [hx] at hcl ⊢
 rw [hy] at kq ⊢
 generalize eqB p q=R at *
 dsimp only [AV.cells,List.cons_append,List.nil_append]
 refine zo ?_;unhygienic intros
 refine fB T176 [.t 3] ?_
 refine Aq ?_
 refine zh (args:=[.agg [int pO,.isl 14 pA,int pT,int pV,int pS,int pN,int pCo,.isl 8 pCa,int pCv,int pCf,int pCk,int pXk,int pXn,str pXt],.agg [int qO,.isl 14 qA,int qT,int qV,int qS,int qN,int qCo,.isl 8 qCa,int qCv,int qCf,int qCk,int qXk,int qXn,str qXt]]) rfl rfl rfl h1 (by rw [AV.closedL,AV.closedL,AV.closedL,hcl,kq];rfl) ?_
 refine Aq ?_
 exact fV
theorem P_find1 (q p:Pat) (hs:q.Sm):PCall EE 135 ([q.enc]++[.iptr p.enc.cells]) (bool (eqB q p)):=by
 have h1:=P_pattern_Same q p hs
 have hcl:=Pat.closed p
 have kq:=Pat.closed q
 obtain ⟨pO,pA,pT,pV,pS,pN,pCo,pCa,pCv,pCf,pCk,pXk,pXn,pXt,hx⟩:=Pat.form p
 obtain ⟨qO,qA,qT,qV,qS,qN,qCo,qCa,qCv,qCf,qCk,qXk,qXn,qXt,hy⟩:=Pat.form q
 rw [hx,hy] at h1
 rw [hx] at hcl ⊢
 rw [hy] at kq ⊢
 generalize eqB q p=R at *
 dsimp only [AV.cells,List.cons_append,List.nil_append]
 refine zo ?_;unhygienic intros
 refine fB T135 [.t 3] ?_
 refine Aq ?_
 refine zh (args:=[.agg [int qO,.isl 14 qA,int qT,int qV,int qS,int qN,int qCo,.isl 8 qCa,int qCv,int qCf,int qCk,int qXk,int qXn,str qXt],.agg [int pO,.isl 14 pA,int pT,int pV,int pS,int pN,int pCo,.isl 8 pCa,int pCv,int pCf,int pCk,int pXk,int pXn,str pXt]]) rfl rfl rfl h1 (by rw [AV.closedL,AV.closedL,AV.closedL,hcl,kq];rfl) ?_
 refine Aq ?_
 exact fV
theorem P_index (l:List Pat) (p:Pat) (hs:p.Sm) (hl:l.length<1048577):PCall EE 157 [.isl 14 (zy Pat.enc l),p.enc] (int (x9 0 l p)):=by
 have h1:=P_IndexFuncP 176 [.iptr p.enc.cells] (zg (by
  obtain ⟨pO,pA,pT,pV,pS,pN,pCo,pCa,pCv,pCf,pCk,pXk,pXn,pXt,hx⟩:=Pat.form p
  have:=Pat.closed p
  rw [hx] at this ⊢
  simpa [AV.cells,AV.closed,AV.closedL] using this)) (fun q=>eqB p q) l hl (fun q _=>P_index1 q p hs)
 rw [← idxP_F] at h1
 have hcl:=Pat.closed p
 have kl:=Pat.closedI l
 obtain ⟨pO,pA,pT,pV,pS,pN,pCo,pCa,pCv,pCf,pCk,pXk,pXn,pXt,hx⟩:=Pat.form p
 rw [hx] at hcl h1 ⊢
 dsimp only [AV.cells] at h1
 have kcl:AV.closedL [int pO,.isl 14 pA,int pT,int pV,int pS,int pN,int pCo,.isl 8 pCa,int pCv,int pCf,int pCk,int pXk,int pXn,str pXt]=true:=by simpa only [AV.closed] using hcl
 generalize zy Pat.enc l=es at *
 generalize x9 0 l p=R at *
 refine zo ?_;unhygienic intros
 refine fB T157 [.t 4] ?_
 refine Aq ?_
 refine wW (wX (F':=[(6,.fn 176 [.iptr [int pO,.isl 14 pA,int pT,int pV,int pS,int pN,int pCo,.isl 8 pCa,int pCv,int pCf,int pCk,int pXk,int pXn,str pXt]]),(5,.isl 14 es)]) 0 [.icells [int pO,.isl 14 pA,int pT,int pV,int pS,int pN,int pCo,.isl 8 pCa,int pCv,int pCf,int pCk,int pXk,int pXn,str pXt]] rfl trivial ⟨⟨_,rfl,(zw _ kcl).symm⟩,trivial⟩ ⟨.refl _,.cl kl,trivial⟩ (by simp)) ?_
 refine zh (args:=[.isl 14 es,.fn 176 [.iptr [int pO,.isl 14 pA,int pT,int pV,int pS,int pN,int pCo,.isl 8 pCa,int pCv,int pCf,int pCk,int pXk,int pXn,str pXt]]]) rfl rfl rfl h1 (by rw [AV.closedL,AV.closedL,AV.closedL,kl,closed_fnI _ kcl];rfl) ?_
 refine Aq ?_
 exact fV
theorem P_find (l:List Pat) (p:Pat) (hs:∀ q∈l,q.Sm) (hl:l.length<1048577):PCall EE 99 [.isl 14 (zy Pat.enc l),p.enc] (int (x9 0 l p)):=by
 have h1:=P_IndexFuncP 135 [.iptr p.enc.cells] (zg (by
  obtain ⟨pO,pA,pT,pV,pS,pN,pCo,pCa,pCv,pCf,pCk,pXk,pXn,pXt,hx⟩:=Pat.form p
  have:=Pat.closed p
  rw [hx] at this ⊢
  simpa [AV.cells,AV.closed,AV.closedL] using this)) (fun q=>eqB q p) l hl (fun q hq=>P_find1 q p (hs q hq))
 rw [← idxP_F2] at h1
 have hcl:=Pat.closed p
 have kl:=Pat.closedI l
 obtain ⟨pO,pA,pT,pV,pS,pN,pCo,pCa,pCv,pCf,pCk,pXk,pXn,pXt,hx⟩:=Pat.form p
 rw [hx] at hcl h1 ⊢
 dsimp only [AV.cells] at h1
 have kcl:AV.closedL [int pO,.isl 14 pA,int pT,int pV,int pS,int pN,int pCo,.isl 8 pCa,int pCv,int pCf,int pCk,int pXk,int pXn,str pXt]=true:=by simpa only [AV.closed] using hcl
 generalize zy Pat.enc l=es at *
 generalize x9 0 l p=R at *
 refine zo ?_;unhygienic intros
 refine fB T99 [.t 4] ?_
 refine Aq ?_
 refine wW (wX (F':=[(6,.fn 135 [.iptr [int pO,.isl 14 pA,int pT,int pV,int pS,int pN,int pCo,.isl 8 pCa,int pCv,int pCf,int pCk,int pXk,int pXn,str pXt]]),(5,.isl 14 es)]) 0 [.icells [int pO,.isl 14 pA,int pT,int pV,int pS,int pN,int pCo,.isl 8 pCa,int pCv,int pCf,int pCk,int pXk,int pXn,str pXt]] rfl trivial ⟨⟨_,rfl,(zw _ kcl).symm⟩,trivial⟩ ⟨.refl _,.cl kl,trivial⟩ (by simp)) ?_
 refine zh (args:=[.isl 14 es,.fn 135 [.iptr [int pO,.isl 14 pA,int pT,int pV,int pS,int pN,int pCo,.isl 8 pCa,int pCv,int pCf,int pCk,int pXk,int pXn,str pXt]]]) rfl rfl rfl h1 (by rw [AV.closedL,AV.closedL,AV.closedL,kl,closed_fnI _ kcl];rfl) ?_
 refine Aq ?_
 exact fV
theorem sameX_and (x y:Ed):uP x y=(decide (x.var=y.var) && (decide (x.ty=y.ty) && (eqB x.cond y.cond && (eqB x.opens y.opens && (eqB x.closes y.closes && (eqB x.checks y.checks && (eqB x.limits y.limits && eqB x.inside y.inside))))))):=by
 rw [Bool.eq_iff_iff]
 simp only [Bool.and_eq_true,decide_eq_true_eq,uP]
 have key:∀ {α:Type} (a b:α),eqB a b=true↔a=b:=fun a b=>by
  by_cases h:a=b
  · exact ⟨fun _=>h,fun _=>xF h⟩
  exact ⟨fun e=>absurd ((xl h).symm.trans e) (by decide),fun e=>absurd e h⟩
 simp only [key,Ed.mk.injEq,true_and]
structure Ed.Ok (x:Ed):Prop where
 cond:x.cond.Sm
 chk:∀ c∈x.checks,c.Sm
 l1:x.opens.length<1000000
 l2:x.closes.length<1000000
 l3:x.checks.length<1000000
 l4:x.limits.length<1000000
 l5:x.inside.length<1000000
theorem P_sameEdge (x y:Ed) (hx:x.Ok):PCall EE 175 [x.enc,y.enc] (bool (uP x y)):=by
 rw [sameX_and]
 have kx:=x.closed
 have ky:=y.closed
 have q3:=wi x.cond y.cond hx.cond
 have q4:=P_EqualI x.opens y.opens (by have:=hx.l1;omega)
 have q5:=P_EqualI x.closes y.closes (by have:=hx.l2;omega)
 have q6:=P_eqfE 33 x.checks y.checks (by have:=hx.l3;omega) (fun q hq q2=>wi q q2 (hx.chk q hq))
 have q7:=P_EqualL x.limits y.limits (by have:=hx.l4;omega)
 have q8:=P_EqualI x.inside y.inside (by have:=hx.l5;omega)
 have k1:=zQ x.opens
 have k2:=zQ x.closes
 have k3:=Ex.closedI x.checks
 have k4:=wv x.limits
 have k5:=zQ x.inside
 have j1:=zQ y.opens
 have j2:=zQ y.closes
 have j3:=Ex.closedI y.checks
 have j4:=wv y.limits
 have j5:=zQ y.inside
 have kc:=Ex.closed x.cond
 have jc:=Ex.closed y.cond
 obtain ⟨co,ec,cv,cf,ck,xk,xn,xt,he,hec⟩:=x.form
 obtain ⟨co2,ec2,cv2,cf2,ck2,xk2,xn2,xt2,he2,hec2⟩:=y.form
 rw [he,he2]
 rw [hec] at kc q3
 rw [hec2] at jc q3
 generalize zy int x.opens=e1 at *
 generalize zy int x.closes=e2 at *
 generalize zy Ex.enc x.checks=e3 at *
 generalize zy wy x.limits=e4 at *
 generalize zy int x.inside=e5 at *
 generalize zy int y.opens=f1 at *
 generalize zy int y.closes=f2 at *
 generalize zy Ex.enc y.checks=f3 at *
 generalize zy wy y.limits=f4 at *
 generalize zy int y.inside=f5 at *
 generalize eqB x.cond y.cond=b3 at *
 generalize eqB x.opens y.opens=b4 at *
 generalize eqB x.closes y.closes=b5 at *
 generalize eqB x.checks y.checks=b6 at *
 generalize eqB x.limits y.limits=b7 at *
 generalize eqB x.inside y.inside=b8 at *
 refine zo ?_;unhygienic intros
 have n1:iEq x.var y.var=decide (x.var=y.var):=by simp only [ee];rfl
 have n2:iEq x.ty y.ty=decide (x.ty=y.ty):=by simp only [ee];rfl
 generalize decide (x.var=y.var)=b1 at *
 generalize decide (x.ty=y.ty)=b2 at *
 have nt:∀ b,bAnd true b=b:=fun b=>by simp only [ee];cases b<;>rfl
 have nf:∀ b,bAnd false b=false:=fun b=>by simp only [ee];cases b<;>rfl
 obtain ⟨R,hR⟩:∃ R,R=(b1 && (b2 && (b3 && (b4 && (b5 && (b6 && (b7 && b8))))))):=⟨_,rfl⟩
 rw [← hR]
 clear he he2 hec hec2
 refine fB T175 [.t 4] ?_
 have n12:bAnd b1 b2=(b1 && b2):=by simp only [ee]
 have hR:R=((b1 && b2) && (b3 && (b4 && (b5 && (b6 && (b7 && b8)))))):=by rw [hR,Bool.and_assoc]
 generalize (b1 && b2)=u at *
 have fz:=And.intro n1 (And.intro n2 n12)
 refine Cq ?_
 cases u with
 | false =>
  have fz:=And.intro nt nf
  refine Cq ?_
  refine goA 9 ?_
  refine goA 9 ?_
  refine goA 9 ?_
  refine goA 9 ?_
  refine goA 9 ?_
  exact fBo (h:=by rw [hR];rfl)
 | true =>
  refine Aq ?_
  refine xv (args:=[.agg [int co,.isl 8 ec,int cv,int cf,int ck,int xk,int xn,str xt],.agg [int co2,.isl 8 ec2,int cv2,int cf2,int ck2,int xk2,int xn2,str xt2]]) rfl rfl rfl rfl q3 (by simp only [AV.closedL,kc,jc];rfl) ?_
  have fz:=And.intro nt nf
  refine Cq ?_
  cases b3 with
  | false =>
   refine Cq ?_
   refine goA 9 ?_
   refine goA 9 ?_
   refine goA 9 ?_
   refine goA 9 ?_
   refine goA 9 ?_
   exact fBo (h:=by rw [hR];rfl)
  | true =>
   refine Aq ?_
   refine xv (args:=[.isl 1 e1,.isl 1 f1]) rfl rfl rfl rfl q4 (by simp only [AV.closedL,k1,j1];rfl) ?_
   refine Cq ?_
   cases b4 with
   | false =>
    refine Cq ?_
    refine goA 9 ?_
    refine goA 9 ?_
    refine goA 9 ?_
    refine goA 9 ?_
    refine goA 9 ?_
    exact fBo (h:=by rw [hR];rfl)
   | true =>
    refine Aq ?_
    refine xv (args:=[.isl 1 e2,.isl 1 f2]) rfl rfl rfl rfl q5 (by simp only [AV.closedL,k2,j2];rfl) ?_
    refine Cq ?_
    cases b5 with
    | false =>
     refine Cq ?_
     refine goA 9 ?_
     refine goA 9 ?_
     refine goA 9 ?_
     refine goA 9 ?_
     refine goA 9 ?_
     exact fBo (h:=by rw [hR];rfl)
    | true =>
     refine Aq ?_
     refine xv (args:=[.isl 8 e3,.isl 8 f3,.fn 33 []]) rfl rfl rfl rfl q6 (by simp only [AV.closedL,k3,j3];rfl) ?_
     refine Cq ?_
     cases b6 with
     | false =>
      refine Cq ?_
      refine goA 9 ?_
      refine goA 9 ?_
      refine goA 9 ?_
      refine goA 9 ?_
      refine goA 9 ?_
      exact fBo (h:=by rw [hR];rfl)
     | true =>
      refine Aq ?_
      refine xv (args:=[.isl 2 e4,.isl 2 f4]) rfl rfl rfl rfl q7 (by simp only [AV.closedL,k4,j4];rfl) ?_
      refine Cq ?_
      cases b7 with
      | false =>
       refine Cq ?_
       refine goA 9 ?_
       refine goA 9 ?_
       refine goA 9 ?_
       refine goA 9 ?_
       refine goA 9 ?_
       exact fBo (h:=by rw [hR];rfl)
      | true =>
       refine Aq ?_
       refine xv (args:=[.isl 1 e5,.isl 1 f5]) rfl rfl rfl rfl q8 (by simp only [AV.closedL,k5,j5];rfl) ?_
       refine Cq ?_
       cases b8 with
       | false =>
        refine Cq ?_
        refine goA 9 ?_
        refine goA 9 ?_
        refine goA 9 ?_
        refine goA 9 ?_
        refine goA 9 ?_
        exact fBo (h:=by rw [hR];rfl)
       | true =>
        refine Cq ?_
        refine goA 9 ?_
        refine goA 9 ?_
        refine goA 9 ?_
        refine goA 9 ?_
        refine goA 9 ?_
        exact fBo (h:=by rw [hR];rfl)
theorem Ed.kcl (x:Ed) {co ec cv cf ck xk xn xt} (h:x.enc=.agg [int x.frm,int x.to,int x.var,int x.ty,int co,.isl 8 ec,int cv,int cf,int ck,int xk,int xn,str xt,.isl 1 (zy int x.opens),.isl 1 (zy int x.closes),.isl 8 (zy Ex.enc x.checks),.isl 2 (zy wy x.limits),.isl 1 (zy int x.inside)]) :
 AV.closedL [int x.frm,int x.to,int x.var,int x.ty,int co,.isl 8 ec,int cv,int cf,int ck,int xk,int xn,str xt,.isl 1 (zy int x.opens),.isl 1 (zy int x.closes),.isl 8 (zy Ex.enc x.checks),.isl 2 (zy wy x.limits),.isl 1 (zy int x.inside)]=true:=by
 have:=x.closed
 rw [h] at this
 simpa only [AV.closed] using this
theorem P_derived1 (y x:Ed) (hx:x.Ok):PCall EE 174 ([y.enc]++[.iptr x.enc.cells]) (bool (decide (x.to=y.to) && uP x y)):=by
 have h1:=P_sameEdge x y hx
 have kx:=x.closed
 have ky:=y.closed
 obtain ⟨co,ec,cv,cf,ck,xk,xn,xt,he,hec⟩:=x.form
 obtain ⟨co2,ec2,cv2,cf2,ck2,xk2,xn2,xt2,he2,hec2⟩:=y.form
 rw [he,he2] at h1
 rw [he] at kx
 rw [he2] at ky
 rw [he,he2]
 clear he he2 hec hec2
 generalize uP x y=b2 at *
 generalize zy int x.opens=e1 at *
 generalize zy int x.closes=e2 at *
 generalize zy Ex.enc x.checks=e3 at *
 generalize zy wy x.limits=e4 at *
 generalize zy int x.inside=e5 at *
 generalize zy int y.opens=f1 at *
 generalize zy int y.closes=f2 at *
 generalize zy Ex.enc y.checks=f3 at *
 generalize zy wy y.limits=f4 at *
 generalize zy int y.inside=f5 at *
 dsimp only [AV.cells,List.cons_append,List.nil_append]
 refine zo ?_;unhygienic intros
 have n1:iEq x.to y.to=decide (x.to=y.to):=by simp only [ee];rfl
 generalize decide (x.to=y.to)=b1 at *
 obtain ⟨R,hR⟩:∃ R,R=(b1 && b2):=⟨_,rfl⟩
 rw [← hR]
 refine fB T174 [.t 3] ?_
 have fz:=n1
 refine Cq ?_
 cases b1 with
 | false =>
  refine goA 9 ?_
  refine goA 9 ?_
  exact fBo (h:=by rw [hR];rfl)
 | true =>
  refine Aq ?_
  refine xv (args:=[.agg [int x.frm,int x.to,int x.var,int x.ty,int co,.isl 8 ec,int cv,int cf,int ck,int xk,int xn,str xt,.isl 1 e1,.isl 1 e2,.isl 8 e3,.isl 2 e4,.isl 1 e5],.agg [int y.frm,int y.to,int y.var,int y.ty,int co2,.isl 8 ec2,int cv2,int cf2,int ck2,int xk2,int xn2,str xt2,.isl 1 f1,.isl 1 f2,.isl 8 f3,.isl 2 f4,.isl 1 f5]]) rfl rfl rfl rfl h1 (by rw [AV.closedL,AV.closedL,AV.closedL,kx,ky];rfl) ?_
  refine goA 9 ?_
  exact fBo (h:=by rw [hR];rfl)
structure sK (p:Pat) (S:List Ed × List Pat):Prop where
 few:S.1.length≤2048
 le:S.2.length≤S.1.length
 to:∀ z∈S.1,z.to<S.2.length
 ok:∀ z∈S.1,z.Ok
 sm:∀ q∈S.2,q.Sm
theorem idxP_len (l:List Pat) (p:Pat):x9 0 l p<l.length∧-1≤x9 0 l p:=by
 rw [idxP_F]
 have:=idxF_lt (fun q=>eqB p q) l 0 (by omega)
 omega
theorem derS_ok {p:Pat} {S S':List Ed × List Pat} {y:Ed × Option Pat} (h:sK p S) (hx:y.1.Ok) (hr:∀ q,y.2=some q→q.Sm) (he:tm S y=some S'):sK p S':=by
 have key:xW S.2 y.2=S.2∨((xW S.2 y.2).length=S.2.length+1∧tB S.2 y.2=S.2.length):=by
  cases hy:y.2 with
  | none=>exact .inl rfl
  | some q =>
   simp only [xW,tB]
   by_cases hi:x9 0 S.2 q<0
   · rw [if_pos hi,if_pos hi];exact .inr ⟨by simp,rfl⟩
   rw [if_neg hi];exact .inl rfl
 have hto:tB S.2 y.2<(xW S.2 y.2).length:=by
  cases hy:y.2 with
  | none=>simp only [tB];omega
  | some q =>
   simp only [xW,tB]
   by_cases hi:x9 0 S.2 q<0
   · rw [if_pos hi,if_pos hi];simp;omega
   rw [if_neg hi,if_neg hi];exact (idxP_len S.2 q).1
 have hsm:∀ q∈xW S.2 y.2,q.Sm:=by
  cases hy:y.2 with
  | none=>exact h.sm
  | some q =>
   simp only [xW]
   split
   · intro z hz
     rcases List.mem_append.1 hz with hz | hz
     · exact h.sm z hz
     simp at hz;rw [hz];exact hr q hy
   exact h.sm
 unfold tm at he
 split at he
 · cases he
 split at he
 · rename_i hb ha
   cases he
   rcases key with hk | ⟨hk,ht⟩
   · refine ⟨h.few,by rw [hk];exact h.le,?_,h.ok,hsm⟩
     simp only [hk];exact h.to
   exfalso
   obtain ⟨z,hz,hz2⟩:=List.any_eq_true.1 ha
   simp only [Bool.and_eq_true,decide_eq_true_eq] at hz2
   have:=h.to z hz
   omega
 split at he
 · cases he
 rename_i hb ha hf
 cases he
 have hl:S.2.length≤(xW S.2 y.2).length∧(xW S.2 y.2).length≤S.2.length+1:=by
  rcases key with hk | ⟨hk,_⟩
  · rw [hk];omega
  omega
 refine ⟨by simp;omega,by simp;have:=h.le;omega,fun z hz=>?_,fun z hz=>?_,hsm⟩
 · rcases List.mem_append.1 hz with hz | hz
   · have:=h.to z hz;dsimp only;omega
   simp at hz;rw [hz];exact hto
 rcases List.mem_append.1 hz with hz | hz
 · exact h.ok z hz
 simp at hz;rw [hz];exact ⟨hx.cond,hx.chk,hx.l1,hx.l2,hx.l3,hx.l4,hx.l5⟩
def rj (p:Pat) (a:Au) (l:List Pat):Prop:=PCall EE 95 [p.enc] (.tup [a.enc,.isl 14 (zy Pat.enc l),int 0])
theorem P_Compile {p:Pat} {a:Au} {l:List Pat} (h:rj p a l):PCall EE 49 [p.enc] (.tup [a.enc,int 0]):=by
 unfold rj at h
 have hcl:=Pat.closed p
 have ka:=Au.closed a
 rw [Au.enc_eq] at h ka ⊢
 generalize zy Pat.enc l=pl at *
 generalize zy stE a.states=sl at *
 generalize zy Ed.enc a.edges=el at *
 generalize a.vars=nV at *
 generalize a.scopes=nS at *
 obtain ⟨pO,pA,pT,pV,pS,pN,pCo,pCa,pCv,pCf,pCk,pXk,pXn,pXt,hx⟩:=Pat.form p
 rw [hx] at hcl h ⊢
 have kas:AV.closedL [int nV,int nS,.isl 1 sl,.isl 17 el]=true:=by simpa only [AV.closed] using ka
 refine zo ?_;unhygienic intros
 refine fB T49 [.cell 2 4 true,.t 3] ?_
 refine Aq ?_
 refine zh (args:=[.agg [int pO,.isl 14 pA,int pT,int pV,int pS,int pN,int pCo,.isl 8 pCa,int pCv,int pCf,int pCk,int pXk,int pXn,str pXt]]) rfl rfl rfl h (zg hcl) ?_
 refine Aq ?_
 refine zP rfl rfl ?_
 exact tu rfl (by rw [AV.closed,AV.closedL,ka];rfl)
theorem P_Find {p q:Pat} {a:Au} {l:List Pat} (h:rj p a l) (hl:l.length≤256) (hs:∀ z∈l,z.Sm) (hq:q.Sm) (hc:q.chkR=0):PCall EE 52 [p.enc,q.enc] (.tup [int (if 0≤x9 0 l q then x9 0 l q else 0),bool (decide (0≤x9 0 l q)),int 0]):=by
 unfold rj at h
 have pk:=vR q hq
 have pf:=P_find l q hs (by omega)
 rw [hc] at pk
 have hcl:=Pat.closed p
 have kq:=Pat.closed q
 have ka:=Au.closed a
 have kl:=Pat.closedI l
 rw [Au.enc_eq] at h ka
 generalize zy Pat.enc l=pl at *
 generalize zy stE a.states=sl at *
 generalize zy Ed.enc a.edges=el at *
 generalize a.vars=nV at *
 generalize a.scopes=nS at *
 generalize x9 0 l q=v at *
 obtain ⟨pO,pA,pT,pV,pS,pN,pCo,pCa,pCv,pCf,pCk,pXk,pXn,pXt,hx⟩:=Pat.form p
 obtain ⟨qO,qA,qT,qV,qS,qN,qCo,qCa,qCv,qCf,qCk,qXk,qXn,qXt,hy⟩:=Pat.form q
 rw [hx] at hcl h ⊢
 rw [hy] at kq pk pf ⊢
 refine zo ?_;unhygienic intros
 have k0:iEq 0 0=true:=by simp only [ee];rfl
 have k1:iNe 0 0=false:=by simp only [ee];rfl
 have k2:iMax v 0=(if 0≤v then v else 0):=by simp only [ee];split<;>split<;>omega
 have k3:iLe 0 v=decide (0≤v):=by simp only [ee]
 generalize (if 0≤v then v else 0)=v1 at *
 generalize decide (0≤v)=v2 at *
 refine fB T52 [.t 4,.t 5,.t 6] ?_
 refine Aq ?_
 refine zh (args:=[.agg [int pO,.isl 14 pA,int pT,int pV,int pS,int pN,int pCo,.isl 8 pCa,int pCv,int pCf,int pCk,int pXk,int pXn,str pXt]]) rfl rfl rfl h (zg hcl) ?_
 have fz:=k0
 refine Cq ?_
 refine goC 60 ?_
 refine zh (args:=[.agg [int qO,.isl 14 qA,int qT,int qV,int qS,int qN,int qCo,.isl 8 qCa,int qCv,int qCf,int qCk,int qXk,int qXn,str qXt]]) rfl rfl rfl pk (zg kq) ?_
 have fz:=k1
 refine Cq ?_
 refine goC 60 ?_
 refine zh (args:=[.isl 14 pl,.agg [int qO,.isl 14 qA,int qT,int qV,int qS,int qN,int qCo,.isl 8 qCa,int qCv,int qCf,int qCk,int qXk,int qXn,str qXt]]) rfl rfl rfl pf (by rw [AV.closedL,AV.closedL,AV.closedL,kl,kq];rfl) ?_
 have fz:=And.intro k2 k3
 refine Cq ?_
 refine goC 60 ?_
 refine zP rfl rfl ?_
 exact tu rfl rfl
theorem P_awithin (i n:Int):PCall EE 77 [int i,int n] (bool (inN i n)):=by
 obtain ⟨R,hR⟩:∃ R,R=inN i n:=⟨_,rfl⟩
 rw [← hR]
 unfold inN at hR
 refine zo ?_;unhygienic intros
 have n1:iLe 0 i=decide (0≤i):=by simp only [ee]
 have n2:iLt i n=decide (i<n):=by simp only [ee]
 generalize decide (0≤i)=b1 at *
 generalize decide (i<n)=b2 at *
 have n3:bAnd b1 b2=R:=by simp only [ee];rw [hR]
 refine fB T77 [.t 4] ?_
 have fz:=And.intro n1 (And.intro n2 n3)
 refine Cq ?_
 refine goC 60 ?_
 exact fV
theorem P_guards1 (h g:Gd):PCall EE 123 ([h.enc]++[.iptr g.enc.cells]) (bool (decide (h.scope=g.scope))):=by
 obtain ⟨co,ec,cv,cf,ck,xk,xn,xt,he,hec⟩:=h.form
 obtain ⟨co2,ec2,cv2,cf2,ck2,xk2,xn2,xt2,he2,hec2⟩:=g.form
 rw [he,he2]
 dsimp only [AV.cells,List.cons_append,List.nil_append]
 refine zo ?_;unhygienic intros
 have n1:iEq h.scope g.scope=decide (h.scope=g.scope):=by simp only [ee];rfl
 generalize decide (h.scope=g.scope)=b1 at *
 refine fB T123 [.t 3] ?_
 have fz:=n1
 refine goC 60 ?_
 refine zP rfl rfl (.val ?_)
 first | rfl | exact congrArg Value.bool n1
theorem Gd.kcl (g:Gd):(AV.iptr g.enc.cells).closed=true:=by
 obtain ⟨co,ec,cv,cf,ck,xk,xn,xt,he,hec⟩:=g.form
 have:=g.closed
 rw [he] at this ⊢
 simpa [AV.cells,AV.closed,AV.closedL] using this
theorem P_aguards (a:Au) (l:List Gd) (hs:∀ g∈l,g.cond.Sm) (hl:l.length<1048577):PCall EE 82 [a.enc,.isl 11 (zy Gd.enc l)] (int (rg a l)):=by
 have hcl:=Gd.closedI l
 have ka:=a.closed
 obtain ⟨R,hR⟩:∃ R,R=rg a l:=⟨_,rfl⟩
 rw [← hR]
 have hel:=zp Gd.enc l
 have hgd:∀ d g,gdE a d g=if (inN g.scope a.scopes && inN g.ty 16 && inN g.var a.vars)=false then 2 else if d.any (fun h=>decide (h.scope=g.scope)) then 7 else g.cond.chk:=fun _ _=>rfl
 have pw:=P_awithin
 rw [Au.enc_eq] at ka ⊢
 generalize zy stE a.states=sl at *
 generalize zy Ed.enc a.edges=el at *
 unfold rg at hR
 generalize gdE a=gf at *
 generalize a.vars=nV at *
 generalize a.scopes=nS at *
 have kas:AV.closedL [int nV,int nS,.isl 1 sl,.isl 17 el]=true:=by simpa only [AV.closed] using ka
 generalize hes:zy Gd.enc l=es at *
 refine zo ?_;unhygienic intros
 have nt:bNot true=false:=by simp only [ee];rfl
 have nf:bNot false=true:=by simp only [ee];rfl
 have no:∀ b,bOr false b=b:=fun b=>by simp only [ee];cases b<;>rfl
 have no2:∀ b,bOr true b=true:=fun b=>by simp only [ee];cases b<;>rfl
 refine fB T82 [.t 4] ?_
 by_cases h64:64<l.length
 · rw [if_pos h64] at hR
   have k1:iLt 64 (lenA es)=true:=by simp only [ee];simp;omega
   have fz:=k1
   refine Cq ?_
   refine goC 60 ?_
   exact fI (h:=hR.symm)
 rw [if_neg h64] at hR
 have k1:iLt 64 (lenA es)=false:=by simp only [ee];simp;omega
 have fz:=k1
 refine Cq ?_
 refine goC 60 ?_
 refine ze (ι:=List Gd × List Gd × Int) (fun p=>([(13,int p.2.2),(12,int (lenA es)),(11,.isl 11 es),(2,.ptr 0 0),(1,.isl 11 es)],[.cells [int nV,int nS,.isl 1 sl,.isl 17 el]])) (fun p=>l=p.1++p.2.1∧p.2.2=p.1.length∧R=sj gf p.1 p.2.1) (fun p=>p.2.1.length) ([],l,0) ⟨rfl,rfl,hR⟩ ?_ ?_
 · exact yz ⟨.refl _,.refl _,.refl _,.refl _,.refl _,trivial⟩
 rintro ⟨d,r,i⟩ ⟨g1,gi,gv⟩
 dsimp only at g1 gi gv ⊢
 have g3:l.length=d.length+r.length:=by rw [g1,List.length_append]
 cases r with
 | nil =>
  simp only [List.length_nil,Nat.add_zero] at g3
  have hc:iLt i (lenA es)=false:=xR e_iLt e_lenA (by omega)
  rw [sj] at gv
  have fz:=hc
  refine Cq ?_
  refine Aq ?_
  refine zk ?_
  refine Aq ?_
  exact fI (h:=gv.symm)
 | cons g r =>
  rw [List.length_cons] at g3
  have hc:iLt i (lenA es)=true:=xU e_iLt e_lenA (by omega)
  have hat:=yX e_atA hes g1 gi
  have hgs:=hs g (by rw [g1];simp)
  have pk:=vo g.cond hgs
  have kg:=g.closed
  have kgI:=g.kcl
  have kc:=Ex.closed g.cond
  have pa:=P_ContainsFuncG 123 [.iptr g.enc.cells] (zg kgI) (fun h=>decide (h.scope=g.scope)) d (by omega) (fun h _=>P_guards1 h g)
  have kd:=Gd.closedI d
  have hi2:iAdd .i64 i 1=((d++[g]).length:Int):=by rw [List.length_append];exact yh e_iAdd gi (by omega)
  have hcut:cutA es 0 i=zy Gd.enc d:=by
   simp only [ee]
   rw [← hes,g1,zu,zu,gi]
   simp
  rw [sj,hgd] at gv
  have pw1:=pw g.scope nS
  have pw2:=pw g.ty 16
  have pw3:=pw g.var nV
  rw [← hcut] at pa kd
  generalize hs7:(d.any fun h=>decide (h.scope=g.scope))=s7 at *
  generalize inN g.scope nS=w1 at *
  generalize inN g.ty 16=w2 at *
  generalize inN g.var nV=w3 at *
  generalize g.cond.chk=ck0 at *
  obtain ⟨co,ec,cv,cf,ck,xk,xn,xt,he,hec⟩:=g.form
  rw [he] at hat kg pa kgI
  dsimp only [AV.cells] at pa kgI
  rw [hec] at pk kc
  have kgs:AV.closedL [int g.scope,int g.ty,int g.var,int co,.isl 8 ec,int cv,int cf,int ck,int xk,int xn,str xt]=true:=by simpa only [AV.closed] using kg
  have fz:=And.intro hc hat
  refine Cq ?_
  refine Cr ?_
  have fz:=hat
  refine Cq ?_
  refine oPA pw1 ?_
  cases w1 with
  | false =>
   have gv2:R=2:=by rw [gv];simp [orE]
   have fz:=And.intro nt (And.intro nf (And.intro no no2))
   refine Cq ?_
   refine goC 9 ?_
   refine yw rfl rfl rfl rfl ?_
   refine Cq ?_
   refine goC 9 ?_
   refine yw rfl rfl rfl rfl ?_
   refine Cq ?_
   refine goC 9 ?_
   refine zf ?_
   refine Aq ?_
   exact fI (h:=gv2.symm)
  | true =>
  have fz:=And.intro nt (And.intro nf (And.intro no no2))
  refine Cq ?_
  refine goC 9 ?_
  refine oPG pw2 ?_
  cases w2 with
  | false =>
   have gv2:R=2:=by rw [gv];simp [orE]
   refine Cq ?_
   refine goC 9 ?_
   refine yw rfl rfl rfl rfl ?_
   refine Cq ?_
   refine goC 9 ?_
   refine zf ?_
   refine Aq ?_
   exact fI (h:=gv2.symm)
  | true =>
  refine Cq ?_
  refine goC 9 ?_
  refine oPG pw3 ?_
  cases w3 with
  | false =>
   have gv2:R=2:=by rw [gv];simp [orE]
   refine Cq ?_
   refine goC 9 ?_
   refine zf ?_
   refine Aq ?_
   exact fI (h:=gv2.symm)
  | true =>
  rw [if_neg (show ¬ ((true && true && true)=false) by decide)] at gv
  refine Cq ?_
  refine goC 9 ?_
  refine vT rfl rfl pa rfl ⟨[.gone,.icells [int g.scope,int g.ty,int g.var,int co,.isl 8 ec,int cv,int cf,int ck,int xk,int xn,str xt]],⟨trivial,⟨_,rfl,(zw _ kgs).symm⟩,trivial⟩,⟨.cl kd,.of rfl,trivial⟩⟩ ?_
  cases s7 with
  | true =>
   have gv2:R=7:=by rw [gv];simp [orE]
   refine Aq ?_
   refine zf ?_
   refine Aq ?_
   exact fI (h:=gv2.symm)
  | false =>
  rw [if_neg (by decide)] at gv
  refine Aq ?_
  refine zh (args:=[.agg [int co,.isl 8 ec,int cv,int cf,int ck,int xk,int xn,str xt]]) rfl rfl rfl pk (zg kc) ?_
  by_cases hk0:ck0=0
  · have k5:iNe ck0 0=false:=by simp only [ee];simp [hk0]
    rw [hk0,we] at gv
    have fz:=k5
    refine Cq ?_
    refine goC 60 ?_
    refine zm (d++[g],r,iAdd .i64 i 1) ⟨by simp [g1],hi2,gv⟩ (by simp) ?_
    dsimp only
    refine xJ (H:=[.cells [int nV,int nS,.isl 1 sl,.isl 17 el]]) [] (KpA.mem ?_) trivial ?_ ?_
    · exact ⟨.cells (.cl kas),trivial⟩
    · exact ⟨.refl _,.refl _,.cl hcl,.refl _,.cl hcl,trivial⟩
    simp
  have k5:iNe ck0 0=true:=by simp only [ee];simp [hk0]
  rw [vS _ hk0] at gv
  have fz:=k5
  refine Cq ?_
  refine goC 60 ?_
  refine zf ?_
  refine Aq ?_
  exact fI (h:=gv.symm)
theorem P_limited (l:List (Int × Int)) (hl:l.length<1000000):PCall EE 125 [.isl 2 (zy wy l)] (.isl 1 (zy int (l.map (·.1)))):=by
 have hcl:=wv l
 have hel:=zp wy l
 generalize hes:zy wy l=es at *
 have hI0:zy int []=[]:=by rw [zu];rfl
 refine zo ?_;unhygienic intros
 refine fB T125 [.t 2] ?_
 refine Aq ?_
 refine ze (ι:=List (Int × Int) × List (Int × Int) × Int) (fun p=>([(8,int p.2.2),(7,int (lenA es)),(6,.isl 2 es),(3,.sl 0 1 0 p.1.length)],[.arr 1 (zy int (p.1.map (·.1)))])) (fun p=>l=p.1++p.2.1∧p.2.2=p.1.length) (fun p=>p.2.1.length) ([],l,0) ⟨rfl,rfl⟩ ?_ ?_
 · dsimp only
   rw [show zy int (List.map (fun x:Int × Int=>x.1) [])=[] from hI0]
   exact ya [] [none] trivial ⟨.none _ rfl,trivial⟩ ⟨.refl _,.refl _,.cl hcl,.nilS _ _ _ (by simp),trivial⟩
 rintro ⟨d,r,i⟩ ⟨g1,gi⟩
 dsimp only at g1 gi ⊢
 have g3:l.length=d.length+r.length:=by rw [g1,List.length_append]
 have kd:=vO (d.map (·.1))
 have hdl:=zp int (d.map (·.1))
 rw [List.length_map] at hdl
 cases r with
 | nil =>
  simp only [List.length_nil,Nat.add_zero] at g3
  have hd:l=d:=by rw [g1,List.append_nil]
  rw [hd]
  have hc:iLt i (lenA es)=false:=xR e_iLt e_lenA (by omega)
  generalize zy int (d.map (·.1))=dl at *
  generalize d.length=n at *
  have fz:=hc
  refine Cq ?_
  refine Aq ?_
  refine zk ?_
  refine Aq ?_
  refine zP rfl rfl ?_
  exact ⟨[.isl 1 dl],⟨⟨_,rfl,(zw _ kd).symm⟩,trivial⟩,.of (xf rfl hdl.symm)⟩
 | cons x r =>
  rw [List.length_cons] at g3
  have hc:iLt i (lenA es)=true:=xU e_iLt e_lenA (by omega)
  have hat:=yX e_atA hes g1 gi
  rw [limE_def] at hat
  have hi2:iAdd .i64 i 1=((d++[x]).length:Int):=by rw [List.length_append];exact yh e_iAdd gi (by omega)
  have kd2:=vO ((d++[x]).map (·.1))
  have hsn:zy int ((d++[x]).map (·.1))=zy int (d.map (·.1))++[int x.1]:=by rw [zu,zu,List.map_append,List.map_append];rfl
  obtain ⟨dl,hD1⟩:∃ y,y=zy int (d.map (·.1)):=⟨_,rfl⟩
  obtain ⟨dl2,hD2⟩:∃ y,y=zy int ((d++[x]).map (·.1)):=⟨_,rfl⟩
  obtain ⟨n,hn⟩:∃ y,y=d.length:=⟨_,rfl⟩
  obtain ⟨n1,hn1⟩:∃ y,y=(d++[x]).length:=⟨_,rfl⟩
  rw [← hD1,← hn]
  rw [← hD1] at hsn kd hdl
  rw [← hD2] at hsn kd2
  have hn2:n1=n+1:=by rw [hn1,List.length_append,hn];rfl
  obtain ⟨x1,x2⟩:=x
  dsimp only at hat hsn
  have f1:addN n (lenN (partA [int x1] 0 1))=n1:=by simp only [ee];rw [hn2];rfl
  have f2:catA (dropA dl 0) (partA [int x1] 0 1)=dl2:=by simp only [ee];rw [hsn];simp
  have fz:=And.intro hc hat
  refine Cq ?_
  have fz:=And.intro hc (And.intro hat (And.intro f1 f2))
  refine Cr ?_
  have fz:=And.intro f1 f2
  refine goC 60 ?_
  refine zm (d++[(x1,x2)],r,iAdd .i64 i 1) ⟨by simp [g1],hi2⟩ (by simp) ?_
  dsimp only
  rw [← hD2,← hn1]
  exact ya [.gone,.gone,.gone,.to 0] [some 3] ⟨trivial,trivial,trivial,⟨by simp,rfl⟩,trivial⟩ ⟨zR (b:=3) rfl rfl rfl rfl kd2,trivial⟩ ⟨.refl _,.refl _,.cl hcl,.refl _,trivial⟩
def lsE (l:List Int):AV:=.isl 1 (zy int l)
theorem lsE_def (l:List Int):lsE l=.isl 1 (zy int l):=rfl
theorem lsE_closed (l:List Int):(lsE l).closed=true:=zQ l
theorem lsE_closedI (l:List (List Int)):(AV.isl 1 (zy lsE l)).closed=true:=yU lsE_closed l
theorem P_scopes (a:Au) (ls:List (List Int)) (hl:ls.length<1000) (hb:∀ l∈ls,l.length<1000000):PCall EE 124 [a.enc,.isl 1 (zy lsE ls)] (int (zU (sD a.scopes) ls)):=by
 have hcl:=lsE_closedI ls
 have ka:=a.closed
 have hel:=zp lsE ls
 obtain ⟨R,hR⟩:∃ R,R=zU (sD a.scopes) ls:=⟨_,rfl⟩
 rw [← hR]
 rw [Au.enc_eq] at ka ⊢
 generalize zy stE a.states=sl at *
 generalize zy Ed.enc a.edges=el at *
 generalize a.vars=nV at *
 generalize a.scopes=nS at *
 have kas:AV.closedL [int nV,int nS,.isl 1 sl,.isl 17 el]=true:=by simpa only [AV.closed] using ka
 generalize hes:zy lsE ls=es at *
 refine zo ?_;unhygienic intros
 have nt:bNot true=false:=by simp only [ee];rfl
 have nf:bNot false=true:=by simp only [ee];rfl
 refine fB T124 [.t 4] ?_
 refine Aq ?_
 refine ze (ι:=List (List Int) × List (List Int) × Int) (fun p=>([(11,int p.2.2),(10,int (lenA es)),(9,.isl 1 es),(2,.ptr 0 0)],[.cells [int nV,int nS,.isl 1 sl,.isl 17 el]])) (fun p=>ls=p.1++p.2.1∧p.2.2=p.1.length∧R=zU (sD nS) p.2.1) (fun p=>p.2.1.length) ([],ls,0) ⟨rfl,rfl,hR⟩ ?_ ?_
 · exact yz ⟨.refl _,.refl _,.refl _,.refl _,trivial⟩
 rintro ⟨d,r,i⟩ ⟨g1,gi,gv⟩
 dsimp only at g1 gi gv ⊢
 have g3:ls.length=d.length+r.length:=by rw [g1,List.length_append]
 cases r with
 | nil =>
  simp only [List.length_nil,Nat.add_zero] at g3
  have hc:iLt i (lenA es)=false:=xR e_iLt e_lenA (by omega)
  rw [zU] at gv
  have fz:=hc
  refine Cq ?_
  refine Aq ?_
  refine zk ?_
  refine Aq ?_
  exact fI (h:=gv.symm)
 | cons l r =>
  rw [List.length_cons] at g3
  have hc:iLt i (lenA es)=true:=xU e_iLt e_lenA (by omega)
  have hat:=yX e_atA hes g1 gi
  rw [lsE_def] at hat
  have hlb:=hb l (by rw [g1];simp)
  have hi2:iAdd .i64 i 1=((d++[l]).length:Int):=by rw [List.length_append];exact yh e_iAdd gi (by omega)
  have kw:=zQ l
  have hwl:=zp int l
  rw [zU] at gv
  have hsc:sD nS l=sj (scE nS) [] l:=rfl
  generalize hws:zy int l=w at *
  generalize sD nS l=se at *
  have fz:=And.intro hc hat
  refine Cq ?_
  refine Cr ?_
  have fz:=hat
  refine Cq ?_
  refine ze (ι:=List Int × List Int × Int) (fun p=>([(17,int p.2.2),(16,int (lenA w)),(15,.isl 1 w),(6,.isl 1 w),(11,int i),(10,int (lenA es)),(9,.isl 1 es),(2,.ptr 0 0)],[.cells [int nV,int nS,.isl 1 sl,.isl 17 el]])) (fun p=>l=p.1++p.2.1∧p.2.2=p.1.length∧se=sj (scE nS) p.1 p.2.1) (fun p=>p.2.1.length) ([],l,0) ⟨rfl,rfl,hsc⟩ ?_ ?_
  · exact yz ⟨.refl _,.refl _,.refl _,.refl _,.refl _,.refl _,.refl _,.refl _,trivial⟩
  rintro ⟨e,s,k⟩ ⟨h1,hk,hv⟩
  dsimp only at h1 hk hv ⊢
  have h3:l.length=e.length+s.length:=by rw [h1,List.length_append]
  cases s with
  | nil =>
   simp only [List.length_nil,Nat.add_zero] at h3
   have m1:iLt k (lenA w)=false:=by simp only [ee];simp;omega
   rw [sj] at hv
   rw [hv,if_neg (by simp)] at gv
   have fz:=m1
   refine Cq ?_
   refine Cr ?_
   refine zk ?_
   refine Aq ?_
   refine zm (d++[l],r,iAdd .i64 i 1) ⟨by simp [g1],hi2,gv⟩ (by simp) ?_
   exact yz ⟨.refl _,.refl _,.refl _,.refl _,trivial⟩
  | cons x s =>
   rw [List.length_cons] at h3
   have m1:iLt k (lenA w)=true:=by simp only [ee];simp;omega
   have hx:atA w k=int x:=by
    simp only [ee]
    rw [← hws,h1,zu,hk]
    simp
   have hi3:iAdd .i64 k 1=((e++[x]).length:Int):=by rw [List.length_append];exact yh e_iAdd hk (by omega)
   have hcut:cutA w 0 k=zy int e:=by
    simp only [ee]
    rw [← hws,h1,zu,zu,hk]
    simp
   have pw:=P_awithin x nS
   have pc:=P_Contains e x (by omega)
   have ke:=zQ e
   rw [← hcut] at pc ke
   rw [sj] at hv
   have hse:scE nS e x=if inN x nS=false then 2 else if decide (x∈e) then 7 else 0:=rfl
   rw [hse] at hv
   generalize inN x nS=w1 at *
   generalize decide (x∈e)=w2 at *
   have fz:=And.intro m1 hx
   refine Cq ?_
   refine Cr ?_
   have fz:=hx
   refine Cq ?_
   refine oPA pw ?_
   cases w1 with
   | false =>
    have hv2:se=2:=by rw [hv];simp [orE]
    have gv2:R=2:=by rw [gv,hv2];simp
    have fz:=And.intro nt nf
    refine Cq ?_
    refine goC 60 ?_
    refine zf ?_
    refine Aq ?_
    refine zf ?_
    refine Aq ?_
    exact fI (h:=gv2.symm)
   | true =>
    have fz:=And.intro nt nf
    refine Cq ?_
    refine goC 60 ?_
    refine zh (args:=[.isl 1 (cutA w 0 k),int x]) rfl rfl rfl pc (by rw [AV.closedL,ke];rfl) ?_
    cases w2 with
    | true =>
     have hv2:se=7:=by rw [hv];simp [orE]
     have gv2:R=7:=by rw [gv,hv2];simp
     refine Aq ?_
     refine zf ?_
     refine Aq ?_
     refine zf ?_
     refine Aq ?_
     exact fI (h:=gv2.symm)
    | false =>
     have hv2:se=sj (scE nS) (e++[x]) s:=by rw [hv];simp [orE]
     refine Aq ?_
     refine zm (e++[x],s,iAdd .i64 k 1) ⟨by simp [h1],hi3,hv2⟩ (by simp) ?_
     exact yz ⟨.refl _,.refl _,.refl _,.refl _,.refl _,.refl _,.refl _,.refl _,trivial⟩
theorem P_edge1 (x:Int × Int):PCall EE 127 ([wy x]++[]) (bool (!inN x.2 1099511627777)):=by
 obtain ⟨x1,x2⟩:=x
 rw [limE_def,List.append_nil]
 dsimp only
 obtain ⟨R,hR⟩:∃ R,R = !inN x2 1099511627777:=⟨_,rfl⟩
 rw [← hR]
 unfold inN at hR
 refine zo ?_;unhygienic intros
 have n1:iLt x2 0 = !decide (0≤x2):=by simp only [ee];rw [Bool.eq_iff_iff];simp
 have n2:iLt 1099511627776 x2 = !decide (x2<1099511627777):=by simp only [ee];rw [Bool.eq_iff_iff];simp;omega
 generalize decide (0≤x2)=b1 at *
 generalize decide (x2<1099511627777)=b2 at *
 have n3:bOr (!b1) (!b2)=R:=by simp only [ee];rw [hR];cases b1<;>rfl
 refine fB T127 [.t 2] ?_
 have fz:=And.intro n1 (And.intro n2 n3)
 refine Cq ?_
 refine goC 60 ?_
 exact fV
theorem P_aedge (a:Au) (x:Ed) (b:Int) (hx:x.Ok):PCall EE 83 [a.enc,x.enc,int b] (int (edE a b x)):=by
 have ka:=a.closed
 have kx:=x.closed
 have pk:=vo x.cond hx.cond
 have pks:=fun c hc=>vo c (hx.chk c hc)
 have psc:=P_scopes a [x.opens,x.closes,x.inside,x.limits.map (·.1)] (by simp) (by
  intro l hl
  have h1:=hx.l1;have h2:=hx.l2;have h3:=hx.l4;have h4:=hx.l5
  simp only [List.mem_cons,List.not_mem_nil,or_false] at hl
  rcases hl with rfl | rfl | rfl | rfl
  · exact h1
  · exact h2
  · exact h4
  rw [List.length_map];exact h3)
 have pli:=P_limited x.limits hx.l4
 have pcl:=P_ContainsFuncL 127 [] rfl (fun y=>!inN y.2 1099511627777) x.limits (by have:=hx.l4;omega) (fun y _=>P_edge1 y)
 have kcc:=Ex.closed x.cond
 have k4:=wv x.limits
 have k3:=Ex.closedI x.checks
 have hcl:=zp Ex.enc x.checks
 have h3l:=hx.l3
 have hsl:=zp stE a.states
 obtain ⟨R,hR⟩:∃ R,R=edE a b x:=⟨_,rfl⟩
 rw [← hR]
 unfold edE sk at hR
 have pw:=P_awithin
 have hL4:zy lsE [x.opens,x.closes,x.inside,x.limits.map (·.1)]=[.isl 1 (zy int x.opens),.isl 1 (zy int x.closes),.isl 1 (zy int x.inside),.isl 1 (zy int (x.limits.map (·.1)))]:=by rw [zu];rfl
 rw [hL4] at psc
 rw [Au.enc_eq] at ka psc ⊢
 obtain ⟨co,ec,cv,cf,ck,xk,xn,xt,he,hec⟩:=x.form
 rw [he] at kx ⊢
 rw [hec] at pk kcc
 generalize hcs:x.checks=cks at *
 generalize zU (sD a.scopes) [x.opens,x.closes,x.inside,x.limits.map (·.1)]=sE at *
 generalize (x.limits.any fun y=>!inN y.2 1099511627777)=sp at *
 have kI1:=zQ x.opens
 have kI2:=zQ x.closes
 have kI5:=zQ x.inside
 have kI6:=zQ (x.limits.map (·.1))
 generalize zy int (x.limits.map (·.1))=e6 at *
 generalize zy int x.opens=e1 at *
 generalize zy int x.closes=e2 at *
 generalize hes3:zy Ex.enc cks=e3 at *
 generalize zy wy x.limits=e4 at *
 generalize zy int x.inside=e5 at *
 generalize x.cond.chk=kc0 at *
 generalize hsn:a.states.length=sn at *
 generalize zy stE a.states=sl at *
 generalize zy Ed.enc a.edges=el at *
 generalize a.vars=nV at *
 generalize a.scopes=nS at *
 have kas:AV.closedL [int nV,int nS,.isl 1 sl,.isl 17 el]=true:=by simpa only [AV.closed] using ka
 have kxs:AV.closedL [int x.frm,int x.to,int x.var,int x.ty,int co,.isl 8 ec,int cv,int cf,int ck,int xk,int xn,str xt,.isl 1 e1,.isl 1 e2,.isl 8 e3,.isl 2 e4,.isl 1 e5]=true:=by simpa only [AV.closed] using kx
 have pw1:=pw x.frm sn
 have pw4:=pw x.var nV
 have pw5:=pw x.ty 16
 have k4I:AV.closedL [.isl 2 e4,.fn 127 []]=true:=by rw [AV.closedL,k4];rfl
 have kL4:(AV.isl 1 [.isl 1 e1,.isl 1 e2,.isl 1 e5,.isl 1 e6]).closed=true:=by rw [AV.closed,AV.closedL,AV.closedL,AV.closedL,AV.closedL,kI1,kI2,kI5,kI6];rfl
 refine zo ?_;unhygienic intros
 have hln:lenA sl=(sn:Int):=by simp only [ee];omega
 generalize (sn:Int)=si at *
 have n2:iLt x.to (-1) = !decide (-1≤x.to):=by simp only [ee];rw [Bool.eq_iff_iff];simp
 have n3:iLe si x.to = !decide (x.to<si):=by simp only [ee];rw [Bool.eq_iff_iff];simp
 generalize decide (-1≤x.to)=b2 at *
 generalize decide (x.to<si)=b3 at *
 obtain ⟨nu,hnu⟩:∃ nu,nu = !(b2 && b3):=⟨_,rfl⟩
 have n23:bOr (!b2) (!b3)=nu:=by simp only [ee];rw [hnu];cases b2<;>rfl
 generalize inN x.frm si=w1 at *
 generalize inN x.var nV=w4 at *
 generalize inN x.ty 16=w5 at *
 have hR:R=if (w1 && ((b2 && b3) && (w4 && w5)))=false then 2 else if x.frm<b then 14 else orE kc0 (if 64<cks.length then 5 else orE (zU Ex.chk cks) (orE sE (if sp=true then 2 else 0))):=by
  rw [hR];simp only [Bool.and_assoc]
 generalize (b2 && b3)=u at *
 have nt:bNot true=false:=by simp only [ee];rfl
 have nf:bNot false=true:=by simp only [ee];rfl
 have no:∀ b,bOr false b=b:=fun b=>by simp only [ee];cases b<;>rfl
 have no2:∀ b,bOr true b=true:=fun b=>by simp only [ee];cases b<;>rfl
 refine fB T83 [.t 6] ?_
 have fz:=hln
 refine Cq ?_
 refine oPA pw1 ?_
 cases w1 with
 | false =>
  have gv2:R=2:=by rw [hR];simp
  have fz:=And.intro nt (And.intro nf (And.intro no no2))
  refine Cq ?_
  refine goC 9 ?_
  refine yw rfl rfl rfl rfl ?_
  refine Cq ?_
  refine goC 9 ?_
  refine yw rfl rfl rfl rfl ?_
  refine Cq ?_
  refine goC 9 ?_
  exact fI (h:=gv2.symm)
 | true =>
 have fz:=And.intro hln (And.intro nt (And.intro nf (And.intro n2 (And.intro n3 (And.intro no (And.intro no2 n23))))))
 refine Cq ?_
 cases nu with
 | true =>
  have hu:u=false:=by revert hnu;cases u<;>decide
  have gv2:R=2:=by rw [hR,hu];simp
  have fz:=And.intro nt (And.intro nf (And.intro no no2))
  refine Cq ?_
  refine goC 9 ?_
  refine yw rfl rfl rfl rfl ?_
  refine Cq ?_
  refine goC 9 ?_
  refine yw rfl rfl rfl rfl ?_
  refine Cq ?_
  refine goC 9 ?_
  exact fI (h:=gv2.symm)
 | false =>
 have hu:u=true:=by revert hnu;cases u<;>decide
 rw [hu] at hR
 have fz:=And.intro nt (And.intro nf (And.intro no no2))
 refine Cq ?_
 refine goC 9 ?_
 refine oPG pw4 ?_
 cases w4 with
 | false =>
  have gv2:R=2:=by rw [hR];simp
  refine Cq ?_
  refine goC 9 ?_
  refine yw rfl rfl rfl rfl ?_
  refine Cq ?_
  refine goC 9 ?_
  exact fI (h:=gv2.symm)
 | true =>
 refine Cq ?_
 refine goC 9 ?_
 refine oPG pw5 ?_
 cases w5 with
 | false =>
  have gv2:R=2:=by rw [hR];simp
  refine Cq ?_
  refine goC 9 ?_
  exact fI (h:=gv2.symm)
 | true =>
 rw [if_neg (by decide)] at hR
 refine Cq ?_
 by_cases hfb:x.frm<b
 · have m1:iLt x.frm b=true:=by simp only [ee];simpa using hfb
   rw [if_pos hfb] at hR
   have fz:=And.intro nt (And.intro nf (And.intro no (And.intro no2 m1)))
   refine Cr ?_
   have fz:=m1
   refine goC 9 ?_
   exact fI (h:=hR.symm)
 have m1:iLt x.frm b=false:=by simp only [ee];simpa using hfb
 rw [if_neg hfb] at hR
 have fz:=And.intro nt (And.intro nf (And.intro no (And.intro no2 m1)))
 refine Cr ?_
 have fz:=m1
 refine goC 9 ?_
 refine zh (args:=[.agg [int co,.isl 8 ec,int cv,int cf,int ck,int xk,int xn,str xt]]) rfl rfl rfl pk (zg kcc) ?_
 by_cases hk0:kc0=0
 rotate_left
 · have k5:iNe kc0 0=true:=by simp only [ee];simp [hk0]
   rw [vS _ hk0] at hR
   have fz:=k5
   refine Cq ?_
   refine goC 60 ?_
   exact fI (h:=hR.symm)
 have k5:iNe kc0 0=false:=by simp only [ee];simp [hk0]
 rw [hk0,we] at hR
 have fz:=k5
 refine Cq ?_
 refine Cr ?_
 by_cases h64:64<cks.length
 · have m6:iLt 64 (lenA e3)=true:=by simp only [ee];simp;omega
   rw [if_pos h64] at hR
   have fz:=m6
   refine Cq ?_
   refine goC 9 ?_
   exact fI (h:=hR.symm)
 have m6:iLt 64 (lenA e3)=false:=by simp only [ee];simp;omega
 rw [if_neg h64] at hR
 have fz:=m6
 refine Cq ?_
 refine goC 9 ?_
 refine ze (ι:=List Ex × List Ex × Int) (fun p=>([(65,int p.2.2),(64,int (lenA e3)),(63,.isl 8 e3),(4,.ptr 1 0),(3,.ptr 0 0)],[.cells [int nV,int nS,.isl 1 sl,.isl 17 el],.cells [int x.frm,int x.to,int x.var,int x.ty,int co,.isl 8 ec,int cv,int cf,int ck,int xk,int xn,str xt,.isl 1 e1,.isl 1 e2,.isl 8 e3,.isl 2 e4,.isl 1 e5]])) (fun p=>cks=p.1++p.2.1∧p.2.2=p.1.length∧R=orE (zU Ex.chk p.2.1) (orE sE (if sp=true then 2 else 0))) (fun p=>p.2.1.length) ([],cks,0) ⟨rfl,rfl,hR⟩ ?_ ?_
 · exact yz ⟨.refl _,.refl _,.refl _,.refl _,.refl _,trivial⟩
 rintro ⟨d,r,i⟩ ⟨g1,gi,gv⟩
 dsimp only at g1 gi gv ⊢
 have g3:cks.length=d.length+r.length:=by rw [g1,List.length_append]
 cases r with
 | cons c r =>
  rw [List.length_cons] at g3
  have hc:iLt i (lenA e3)=true:=xU e_iLt e_lenA (by omega)
  have hat:=yX e_atA hes3 g1 gi
  have pk2:=pks c (by rw [g1];simp)
  have kc2:=Ex.closed c
  have hi2:iAdd .i64 i 1=((d++[c]).length:Int):=by rw [List.length_append];exact yh e_iAdd gi (by omega)
  rw [zU] at gv
  generalize c.chk=kc1 at *
  obtain ⟨cO,cA,cV,cF,cK,cXk,cXn,cXt,hcf⟩:=Ex.form c
  rw [hcf] at hat pk2 kc2
  have fz:=And.intro hc hat
  refine Cq ?_
  refine Cr ?_
  have fz:=hat
  refine Cq ?_
  refine zh (args:=[.agg [int cO,.isl 8 cA,int cV,int cF,int cK,int cXk,int cXn,str cXt]]) rfl rfl rfl pk2 (zg kc2) ?_
  by_cases hk1:kc1=0
  · have k6:iNe kc1 0=false:=by simp only [ee];simp [hk1]
    rw [if_neg (by simp [hk1])] at gv
    have fz:=k6
    refine Cq ?_
    refine goC 60 ?_
    refine zm (d++[c],r,iAdd .i64 i 1) ⟨by simp [g1],hi2,gv⟩ (by simp) ?_
    dsimp only
    refine xJ (H:=[.cells [int nV,int nS,.isl 1 sl,.isl 17 el],.cells [int x.frm,int x.to,int x.var,int x.ty,int co,.isl 8 ec,int cv,int cf,int ck,int xk,int xn,str xt,.isl 1 e1,.isl 1 e2,.isl 8 e3,.isl 2 e4,.isl 1 e5]]) [] (KpA.mem ?_) trivial ?_ ?_
    · exact ⟨.cells (.cl kas),.cells (.cl kxs),trivial⟩
    · exact ⟨.refl _,.refl _,.cl k3,.refl _,.refl _,trivial⟩
    simp
  have k6:iNe kc1 0=true:=by simp only [ee];simp [hk1]
  rw [if_pos hk1,vS _ hk1] at gv
  have fz:=k6
  refine Cq ?_
  refine goC 60 ?_
  refine zf ?_
  refine Aq ?_
  exact fI (h:=gv.symm)
 | nil =>
  simp only [List.length_nil,Nat.add_zero] at g3
  have hc:iLt i (lenA e3)=false:=xR e_iLt e_lenA (by omega)
  rw [zU,we] at gv
  have fz:=hc
  refine Cq ?_
  refine Aq ?_
  refine zk ?_
  refine Aq ?_
  refine zX rfl (by conv=>lhs;cbv) rfl ?_
  refine tgA ?_
  refine xL (args:=[.isl 2 e4]) rfl rfl rfl pli (zg k4) ?_
  refine yr 0 hX (by conv=>lhs;cbv) ?_ ?_
  · first | exact trivial | (simp only [Cd.ok,ee];and_intros<;>first | omega | rfl | (simp<;>omega))
  refine tr_bslf rfl rfl rfl rfl ?_
  refine tgA ?_
  refine xL (args:=[.agg [int nV,int nS,.isl 1 sl,.isl 17 el],.isl 1 [.isl 1 e1,.isl 1 e2,.isl 1 e5,.isl 1 e6]]) rfl rfl rfl psc (by rw [AV.closedL,AV.closedL,AV.closedL,ka,kL4];rfl) ?_
  refine tgA ?_
  refine zK ⟨rfl,?_,?_⟩
  · simp only [zJ,zd,List.cons_append,List.nil_append,List.append_nil];and_intros<;>first | trivial | (intro hp;first | rfl | exact absurd (show false=true from hp) Bool.false_ne_true)
  by_cases hs0:sE=0
  rotate_left
  · have k7:iNe sE 0=true:=by simp only [ee];simp [hs0]
    rw [vS _ hs0] at gv
    have fz:=k7
    refine Cq ?_
    refine goC 60 ?_
    exact fI (h:=gv.symm)
  have k7:iNe sE 0=false:=by simp only [ee];simp [hs0]
  rw [hs0,we] at gv
  have fz:=k7
  refine Cq ?_
  refine goC 60 ?_
  refine zh (args:=[.isl 2 e4,.fn 127 []]) rfl rfl rfl pcl k4I ?_
  cases sp with
  | true =>
   rw [if_pos rfl] at gv
   refine Aq ?_
   exact fI (h:=gv.symm)
  | false =>
   rw [if_neg (by decide)] at gv
   refine Aq ?_
   exact fI (h:=gv.symm)
structure Au.Ok (a:Au):Prop where
 st:a.states.length<1000000
 gl:∀ l∈a.states,l.length<1000000
 gs:∀ l∈a.states,∀ g∈l,g.cond.Sm
 ed:a.edges.length<1000000
 es:∀ x∈a.edges,x.Ok
theorem P_aCheck (a:Au) (ha:a.Ok):PCall EE 36 [a.enc] (int a.chk):=by
 have ka:=a.closed
 have pg:=fun l (hl:l∈a.states)=>P_aguards a l (ha.gs l hl) (by have:=ha.gl l hl;omega)
 have pe:=fun x (hx:x∈a.edges) b=>P_aedge a x b (ha.es x hx)
 have hsl:=zp stE a.states
 have hel:=zp Ed.enc a.edges
 have h1:=ha.st
 have h2:=ha.ed
 have ks:=stE_closedI a.states
 have ke:=Ed.closedI a.edges
 obtain ⟨R,hR⟩:∃ R,R=a.chk:=⟨_,rfl⟩
 rw [← hR]
 unfold Au.chk inN at hR
 rw [Au.enc_eq] at ka pg pe ⊢
 generalize rg a=gf at *
 generalize hef:edE a=ef at *
 have hed:∀ b l,rr a b l=match l with
  | []=>0
  | x :: r=>orE (ef b x) (rr a x.frm r):=fun b l=>by
  cases l with
  | nil=>rfl
  | cons x r=>rw [rr,hef]
 generalize rr a=ds at *
 generalize hst:a.states=sts at *
 generalize hdg:a.edges=eds at *
 generalize hes1:zy stE sts=sl at *
 generalize hes2:zy Ed.enc eds=el at *
 generalize a.vars=nV at *
 generalize a.scopes=nS at *
 have kas:AV.closedL [int nV,int nS,.isl 1 sl,.isl 17 el]=true:=by simpa only [AV.closed] using ka
 refine zo ?_;unhygienic intros
 obtain ⟨t1,ht1⟩:∃ t1,t1 = !(decide (0≤nV) && decide (nV<17) && (decide (0≤nS) && decide (nS<65))):=⟨_,rfl⟩
 have n1:bOr (bOr (bOr (iLt nV 0) (iLt 16 nV)) (iLt nS 0)) (iLt 64 nS)=t1:=by
  simp only [ee];rw [ht1,Bool.eq_iff_iff];simp;omega
 obtain ⟨t2,ht2⟩:∃ t2,t2=decide (sts.length<1∨256<sts.length∨2048<eds.length):=⟨_,rfl⟩
 have n2:bOr (bOr (iLt (lenA sl) 1) (iLt 256 (lenA sl))) (iLt 2048 (lenA el))=t2:=by
  simp only [ee];rw [ht2,Bool.eq_iff_iff];simp only [Bool.or_eq_true,decide_eq_true_eq];omega
 refine fB T36 [.t 2] ?_
 have fz:=n1
 refine Cq ?_
 cases t1 with
 | true =>
  have hc:(decide (0≤nV) && decide (nV<17) && (decide (0≤nS) && decide (nS<65)))=false:=by
   generalize (decide (0≤nV) && decide (nV<17) && (decide (0≤nS) && decide (nS<65)))=z at ht1 ⊢
   revert ht1;cases z<;>decide
  rw [if_pos hc] at hR
  refine Aq ?_
  exact fI (h:=hR.symm)
 | false =>
 have hc:¬ ((decide (0≤nV) && decide (nV<17) && (decide (0≤nS) && decide (nS<65)))=false):=by
  generalize (decide (0≤nV) && decide (nV<17) && (decide (0≤nS) && decide (nS<65)))=z at ht1 ⊢
  revert ht1;cases z<;>decide
 rw [if_neg hc] at hR
 have fz:=n2
 refine Cr ?_
 refine Cq ?_
 cases t2 with
 | true =>
  rw [if_pos (of_decide_eq_true ht2.symm)] at hR
  refine Aq ?_
  exact fI (h:=hR.symm)
 | false =>
 rw [if_neg (of_decide_eq_false ht2.symm)] at hR
 refine Aq ?_
 refine ze (ι:=List (List Gd) × List (List Gd) × Int) (fun p=>([(49,int p.2.2),(48,int (lenA sl)),(47,.isl 1 sl),(1,.ptr 0 0)],[.cells [int nV,int nS,.isl 1 sl,.isl 17 el]])) (fun p=>sts=p.1++p.2.1∧p.2.2=p.1.length∧R=orE (zU gf p.2.1) (ds 0 eds)) (fun p=>p.2.1.length) ([],sts,0) ⟨rfl,rfl,hR⟩ ?_ ?_
 · exact yz ⟨.refl _,.refl _,.refl _,.refl _,trivial⟩
 rintro ⟨d,r,i⟩ ⟨g1,gi,gv⟩
 dsimp only at g1 gi gv ⊢
 have g3:sts.length=d.length+r.length:=by rw [g1,List.length_append]
 cases r with
 | cons l r =>
  rw [List.length_cons] at g3
  have hc:iLt i (lenA sl)=true:=xU e_iLt e_lenA (by omega)
  have hat:=yX e_atA hes1 g1 gi
  rw [stE_eq] at hat
  have pg2:=pg l (by rw [g1];simp)
  have kg:=Gd.closedI l
  have hi2:iAdd .i64 i 1=((d++[l]).length:Int):=by rw [List.length_append];exact yh e_iAdd gi (by omega)
  rw [zU] at gv
  generalize gf l=v at *
  generalize zy Gd.enc l=gl at *
  have fz:=And.intro hc hat
  refine Cq ?_
  refine Cr ?_
  have fz:=hat
  refine Cq ?_
  refine zh (args:=[.agg [int nV,int nS,.isl 1 sl,.isl 17 el],.isl 11 gl]) rfl rfl rfl pg2 (by rw [AV.closedL,AV.closedL,AV.closedL,ka,kg];rfl) ?_
  by_cases hv0:v=0
  · have k6:iNe v 0=false:=by simp only [ee];simp [hv0]
    rw [if_neg (by simp [hv0])] at gv
    have fz:=k6
    refine Cq ?_
    refine goC 60 ?_
    refine zm (d++[l],r,iAdd .i64 i 1) ⟨by simp [g1],hi2,gv⟩ (by simp) ?_
    dsimp only
    refine xJ (H:=[.cells [int nV,int nS,.isl 1 sl,.isl 17 el]]) [] (KpA.mem ?_) trivial ?_ ?_
    · exact ⟨.cells (.cl kas),trivial⟩
    · exact ⟨.refl _,.refl _,.cl ks,.refl _,trivial⟩
    simp
  have k6:iNe v 0=true:=by simp only [ee];simp [hv0]
  rw [if_pos hv0,vS _ hv0] at gv
  have fz:=k6
  refine Cq ?_
  refine goC 60 ?_
  refine zf ?_
  refine Aq ?_
  exact fI (h:=gv.symm)
 | nil =>
  simp only [List.length_nil,Nat.add_zero] at g3
  have hc:iLt i (lenA sl)=false:=xR e_iLt e_lenA (by omega)
  rw [zU,we] at gv
  have fz:=hc
  refine Cq ?_
  refine Aq ?_
  refine zk ?_
  refine Aq ?_
  refine ze (ι:=List Ed × List Ed × Int × Int) (fun p=>([(64,int p.2.2.1),(63,int (lenA el)),(62,.isl 17 el),(6,int p.2.2.2),(1,.ptr 0 0)],[.cells [int nV,int nS,.isl 1 sl,.isl 17 el]])) (fun p=>eds=p.1++p.2.1∧p.2.2.1=p.1.length∧R=ds p.2.2.2 p.2.1) (fun p=>p.2.1.length) ([],eds,0,0) ⟨rfl,rfl,gv⟩ ?_ ?_
  · exact yz ⟨.refl _,.refl _,.refl _,.refl _,.refl _,trivial⟩
  rintro ⟨d2,r2,k,b⟩ ⟨h1,hk,hv⟩
  dsimp only at h1 hk hv ⊢
  have h3:eds.length=d2.length+r2.length:=by rw [h1,List.length_append]
  cases r2 with
  | nil =>
   simp only [List.length_nil,Nat.add_zero] at h3
   have hc2:iLt k (lenA el)=false:=xR e_iLt e_lenA (by omega)
   rw [hed] at hv
   have fz:=hc2
   refine Cq ?_
   refine Aq ?_
   refine zk ?_
   refine Aq ?_
   exact fI (h:=hv.symm)
  | cons x r2 =>
   rw [List.length_cons] at h3
   have hc2:iLt k (lenA el)=true:=xU e_iLt e_lenA (by omega)
   have hat2:=yX e_atA hes2 h1 hk
   have pe2:=pe x (by rw [h1];simp) b
   have kx:=x.closed
   have hi3:iAdd .i64 k 1=((d2++[x]).length:Int):=by rw [List.length_append];exact yh e_iAdd hk (by omega)
   rw [hed] at hv
   dsimp only at hv
   generalize ef b x=v at *
   obtain ⟨co,ec,cv,cf,ck,xk,xn,xt,he,hec⟩:=x.form
   rw [he] at hat2 pe2 kx
   generalize zy int x.opens=e1 at *
   generalize zy int x.closes=e2 at *
   generalize zy Ex.enc x.checks=e3 at *
   generalize zy wy x.limits=e4 at *
   generalize zy int x.inside=e5 at *
   have fz:=And.intro hc2 hat2
   refine Cq ?_
   refine Cr ?_
   have fz:=hat2
   refine Cq ?_
   refine zh (args:=[.agg [int nV,int nS,.isl 1 sl,.isl 17 el],.agg [int x.frm,int x.to,int x.var,int x.ty,int co,.isl 8 ec,int cv,int cf,int ck,int xk,int xn,str xt,.isl 1 e1,.isl 1 e2,.isl 8 e3,.isl 2 e4,.isl 1 e5],int b]) rfl rfl rfl pe2 (by rw [AV.closedL,AV.closedL,AV.closedL,AV.closedL,ka,kx];rfl) ?_
   by_cases hv0:v=0
   · have k6:iNe v 0=false:=by simp only [ee];simp [hv0]
     rw [hv0,we] at hv
     have fz:=k6
     refine Cq ?_
     refine goC 60 ?_
     refine zm (d2++[x],r2,iAdd .i64 k 1,x.frm) ⟨by simp [h1],hi3,hv⟩ (by simp) ?_
     dsimp only
     refine xJ (H:=[.cells [int nV,int nS,.isl 1 sl,.isl 17 el]]) [] (KpA.mem ?_) trivial ?_ ?_
     · exact ⟨.cells (.cl kas),trivial⟩
     · exact ⟨.refl _,.refl _,.cl ke,.refl _,.refl _,trivial⟩
     simp
   have k6:iNe v 0=true:=by simp only [ee];simp [hv0]
   rw [vS _ hv0] at hv
   have fz:=k6
   refine Cq ?_
   refine goC 60 ?_
   refine zf ?_
   refine Aq ?_
   exact fI (h:=hv.symm)
end Go.Am
end
