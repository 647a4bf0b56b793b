/- Contracts of the program's functions. -/
import Derived.Test.YtpdmaimjllhooaaGreatDoorProg
import Derived.Test.YtpdmaimjllhooaaGreatDoorRCt4
import Derived.Test.YtpdmaimjllhooaaGreatDoorRCt3
import Derived.Test.YtpdmaimjllhooaaGreatDoorRCt2
section
set_option maxHeartbeats 16000000
set_option maxRecDepth 100000
namespace Go.Am
open Go.Proofs
noncomputable def Pat.chkR (p:Pat):Int:=if 64<p.cnt then 5 else if 12<p.dep then 12 else zm Pat.nodeE p.nodes
theorem xc {α:Type} {F:α→Int}:∀ {l:List α},(∀ q∈l,F q=0)→zm F l=0
 | [],_=>rfl
 | q :: r,h=>by rw [zm,if_neg (by simp [h q]),xc fun q hq=>h q (by simp [hq])]
theorem firstE_at {α:Type} {F:α→Int} {d:List α} {q:α} {r:List α} (h:∀ q∈d,F q=0) (hq:F q≠0):zm F (d++q :: r)=F q:=by
 rw [z8,if_neg (by simp [xc h]),zm,if_pos hq]
theorem P_CheckRest (p:Pat) (hs:p.Sm):PCall EE 122 [p.enc] (int p.chkR):=by
 have h1:=P_pattern_Size p hs
 have hsn:=hs.node
 have hcl:=Pat.closed p
 obtain ⟨R,hR⟩:∃ R,R=p.chkR:=⟨_,rfl⟩
 rw [← hR]
 unfold Pat.chkR at hR
 obtain ⟨pcs,hpe⟩:∃ cs,p.enc=.agg cs:=by obtain ⟨o,es,t,v,s,n,co,ec,cv,cf,ck,xk,xn,xt,h⟩:=Pat.form p;exact ⟨_,h⟩
 have hpre:=P_preorder p hpe
 obtain ⟨pO,pA,pT,pV,pS,pN,pCo,pCa,pCv,pCf,pCk,pXk,pXn,pXt,hx⟩:=Pat.form p
 rw [hx] at h1 hcl hpe ⊢
 injection hpe with hpe
 subst hpe
 have hip:(AV.fn 155 [.iptr [int pO,.isl 14 pA,int pT,int pV,int pS,int pN,int pCo,.isl 8 pCa,int pCv,int pCf,int pCk,int pXk,int pXn,str pXt]]).closed=true:=by simp only [zA,AV.closedL,zd,Bool.and_true];exact hcl
 generalize hn:(p.cnt:Int)=cn at *
 generalize hd:(p.dep:Int)=dn at *
 refine zr ?_;unhygienic intros
 refine fB T122 [.cell 2 1 false] ?_
 by_cases g1:64<p.cnt
 · have k1:iLt 64 cn=true:=by simp only [ee];simp;omega
   have hR:R=5:=by rw [hR,if_pos g1]
   refine Aq ?_
   refine oPA h1 ?_
   have fz:=k1
   refine Cq ?_
   refine Aq ?_
   exact fI (h:=hR.symm)
 have k1:iLt 64 cn=false:=by simp only [ee];simp;omega
 by_cases g2:12<p.dep
 · have k2:iLt 12 dn=true:=by simp only [ee];simp;omega
   have hR:R=12:=by rw [hR,if_neg g1,if_pos g2]
   refine Aq ?_
   refine oPA h1 ?_
   have fz:=And.intro k1 k2
   refine Cq ?_
   refine Cr ?_
   refine Aq ?_
   exact fI (h:=hR.symm)
 have k2:iLt 12 dn=false:=by simp only [ee];simp;omega
 have hR:R=zm Pat.nodeE p.nodes:=by rw [hR,if_neg g1,if_neg g2]
 refine Aq ?_
 refine oPA h1 ?_
 have fz:=And.intro k1 k2
 refine Cq ?_
 refine Cr ?_
 refine Aq ?_
 refine oPA hpre ?_
 refine Aq ?_
 refine xM (F':=[(17,.fn 155 [.iptr [int pO,.isl 14 pA,int pT,int pV,int pS,int pN,int pCo,.isl 8 pCa,int pCv,int pCf,int pCk,int pXk,int pXn,str pXt]]),(2,.ptr 0 0)]) (H':=[.cells [int 0],.dead,.dead,.dead,.dead,.dead,.dead]) ?_ ?_
 · exact (eS [.gone,.to 0] [some 1,none,none,none,none,none,none])
 refine on_preorder (fun _=>.cells [int 0]) (fun _=>.dead) (fun _=>.dead) (fun _=>.dead) (fun _=>.dead) (fun _=>.dead) (fun _=>.dead) (fun _=>.dead) (fun _=>.dead) (fun d=>∀ q∈d,q.nodeE=0) p hs hx rfl rfl ⟨.cl hip,.ptr (by decide),trivial⟩ (fun q hq=>by cases hq) ?_ (fun _=>.cells ⟨.cl rfl,trivial⟩) (fun _=>.dead) (fun _=>.dead) (fun _=>.dead) (fun _=>.dead) (fun _=>.dead) (fun _=>.dead) (fun _=>.dead) (fun _=>.dead) (fun hall=>?_) (fun d q r hd hok=>?_)
 · exact (xV [.to 0,.gone,.gone,.gone,.gone,.gone,.gone,.to 7] [some 0,some 1,some 2,some 3,some 4,some 5,some 6,some 7,none,none] rfl ⟨rfl,rfl,rfl,rfl,rfl,rfl,rfl,rfl,trivial⟩ (by simp) (by simp) ⟨⟨by simp,rfl⟩,trivial,trivial,trivial,trivial,trivial,trivial,⟨by simp,rfl⟩,trivial⟩ ⟨ze (b:=0) rfl rfl rfl ⟨.refl _,trivial⟩,.dead,.dead,.dead,.dead,.dead,.dead,.some 7 _ _ rfl rfl rfl (.loop _ _ _ _ _ _ _ _ ⟨.cl hip,.refl _,trivial⟩),.dead,.dead,trivial⟩)
 · have hR:R=0:=by rw [hR];exact xc hall
   refine Aq ?_
   exact fI (h:=hR.symm)
 have hq:=P_check q (hsn q (by rw [hd];simp))
 have hqc:=Pat.closed q
 have hfe:=fun h=>firstE_at (F:=Pat.nodeE) (r:=r) hok (q:=q) h
 rw [← hd] at hfe
 have hok2:q.nodeE=0→∀ q'∈d++[q],q'.nodeE=0:=fun h q' hq'=>by
  rcases List.mem_append.1 hq' with h' | h'
  · exact hok q' h'
  simp at h';rw [h'];exact h
 obtain ⟨qO,qA,qT,qV,qS,qN,qCo,qCa,qCv,qCf,qCk,qXk,qXn,qXt,hx2⟩:=Pat.form q
 rw [hx2] at hq hqc ⊢
 generalize q.nodeE=qe at *
 by_cases hqe:qe=0
 · have k3:iNe qe 0=false:=by simp only [ee];simpa using hqe
   refine Aq ?_
   refine xe rfl ?_
   refine Aq ?_
   refine oPA hq ?_
   have fz:=k3
   refine Cq ?_
   refine Aq ?_
   exact wN rfl (hok2 hqe) (xV [.to 0,.gone,.gone,.gone,.gone,.gone,.gone,.to 7,.gone,.gone,.gone] [some 0,some 1,some 2,some 3,some 4,some 5,some 6,some 7,none,none] rfl ⟨rfl,rfl,rfl,rfl,rfl,rfl,rfl,rfl,trivial⟩ (by simp) (by simp) ⟨⟨by simp,rfl⟩,trivial,trivial,trivial,trivial,trivial,trivial,⟨by simp,rfl⟩,trivial,trivial,trivial,trivial⟩ ⟨ze (b:=0) rfl rfl rfl ⟨.refl _,trivial⟩,.dead,.dead,.dead,.dead,.dead,.dead,.some 7 _ _ rfl rfl rfl (.loop _ _ _ _ _ _ _ _ ⟨.cl hip,.refl _,trivial⟩),.dead,.dead,trivial⟩)
 have k3:iNe qe 0=true:=by simp only [ee];simpa using hqe
 have hR:R=qe:=by rw [hR];exact hfe hqe
 refine Aq ?_
 refine xe rfl ?_
 refine Aq ?_
 refine oPA hq ?_
 have fz:=k3
 refine Cq ?_
 refine Aq ?_
 refine rnd_stop (by simp) rfl ?_
 refine Aq ?_
 exact fI (h:=hR.symm)
theorem Pat.some_cells (p:Pat):∃ cs,p.enc=.agg cs:=by obtain ⟨o,es,t,v,s,n,co,ec,cv,cf,ck,xk,xn,xt,h⟩:=Pat.form p;exact ⟨_,h⟩
noncomputable def Pat.wholeE (p:Pat):Int:=if p.chkR≠0 then p.chkR else zm (fun q=>if 8≤q.op then 1 else 0) p.nodes
theorem P_whole (p:Pat) (hs:p.Sm):PCall EE 80 [p.enc] (int p.wholeE):=by
 have h1:=P_CheckRest p hs
 have hcl:=Pat.closed p
 obtain ⟨R,hR⟩:∃ R,R=p.wholeE:=⟨_,rfl⟩
 rw [← hR]
 unfold Pat.wholeE at hR
 obtain ⟨pcs,hpe⟩:=Pat.some_cells p
 have hpre:=P_preorder p hpe
 obtain ⟨pO,pA,pT,pV,pS,pN,pCo,pCa,pCv,pCf,pCk,pXk,pXn,pXt,hx⟩:=Pat.form p
 rw [hx] at h1 hcl hpe ⊢
 injection hpe with hpe
 subst hpe
 have hip:(AV.fn 155 [.iptr [int pO,.isl 14 pA,int pT,int pV,int pS,int pN,int pCo,.isl 8 pCa,int pCv,int pCf,int pCk,int pXk,int pXn,str pXt]]).closed=true:=by simp only [zA,AV.closedL,zd,Bool.and_true];exact hcl
 generalize p.chkR=rn at *
 refine zr ?_;unhygienic intros
 refine fB T80 [.cell 2 1 false] ?_
 by_cases g1:rn=0
 rotate_left
 · have k1:iNe rn 0=true:=by simp only [ee];simpa using g1
   rw [if_pos g1] at hR
   refine Aq ?_
   refine oPA h1 ?_
   have fz:=k1
   refine Cq ?_
   refine Aq ?_
   exact fI (h:=hR.symm)
 have k1:iNe rn 0=false:=by simp only [ee];simpa using g1
 rw [if_neg (by simpa using g1)] at hR
 refine Aq ?_
 refine oPA h1 ?_
 have fz:=k1
 refine Cq ?_
 refine Aq ?_
 refine oPA hpre ?_
 refine Aq ?_
 refine xM (F':=[(11,.fn 155 [.iptr [int pO,.isl 14 pA,int pT,int pV,int pS,int pN,int pCo,.isl 8 pCa,int pCv,int pCf,int pCk,int pXk,int pXn,str pXt]]),(2,.ptr 0 0)]) (H':=[.cells [int 0],.dead,.dead,.dead,.dead,.dead,.dead]) ?_ ?_
 · exact (eS [.gone,.to 0] [some 1,none,none,none,none,none,none])
 refine on_preorder (fun _=>.cells [int 0]) (fun _=>.dead) (fun _=>.dead) (fun _=>.dead) (fun _=>.dead) (fun _=>.dead) (fun _=>.dead) (fun _=>.dead) (fun _=>.dead) (fun d=>∀ q∈d,(if 8≤q.op then 1 else 0:Int)=0) p hs hx rfl rfl ⟨.cl hip,.ptr (by decide),trivial⟩ (fun q hq=>by cases hq) ?_ (fun _=>.cells ⟨.cl rfl,trivial⟩) (fun _=>.dead) (fun _=>.dead) (fun _=>.dead) (fun _=>.dead) (fun _=>.dead) (fun _=>.dead) (fun _=>.dead) (fun _=>.dead) (fun hall=>?_) (fun d q r hd hok=>?_)
 · exact (xV [.to 0,.gone,.gone,.gone,.gone,.gone,.gone,.to 7] [some 0,some 1,some 2,some 3,some 4,some 5,some 6,some 7,none,none] rfl ⟨rfl,rfl,rfl,rfl,rfl,rfl,rfl,rfl,trivial⟩ (by simp) (by simp) ⟨⟨by simp,rfl⟩,trivial,trivial,trivial,trivial,trivial,trivial,⟨by simp,rfl⟩,trivial⟩ ⟨ze (b:=0) rfl rfl rfl ⟨.refl _,trivial⟩,.dead,.dead,.dead,.dead,.dead,.dead,.some 7 _ _ rfl rfl rfl (.loop _ _ _ _ _ _ _ _ ⟨.cl hip,.refl _,trivial⟩),.dead,.dead,trivial⟩)
 · have hR:R=0:=by rw [hR];exact xc hall
   refine Aq ?_
   exact fI (h:=hR.symm)
 have hqc:=Pat.closed q
 have hfe:=fun h=>firstE_at (F:=fun q:Pat=>(if 8≤q.op then 1 else 0:Int)) (r:=r) hok (q:=q) h
 rw [← hd] at hfe
 have hok2:(if 8≤q.op then 1 else 0:Int)=0→∀ q'∈d++[q],(if 8≤q'.op then 1 else 0:Int)=0:=fun h q' hq'=>by
  rcases List.mem_append.1 hq' with h' | h'
  · exact hok q' h'
  simp at h';rw [h'];exact h
 obtain ⟨qO,qA,qT,qV,qS,qN,qCo,qCa,qCv,qCf,qCk,qXk,qXn,qXt,hx2,hx2c,hqO,hqA,hqT,hqV,hqS,hqN⟩:=Pat.form2 q
 rw [hx2] at hqc ⊢
 rw [← hqO] at hfe hok2
 by_cases hqe:8≤qO
 · have k3:iLe 8 qO=true:=by simp only [ee];simpa using hqe
   have hR:R=1:=by rw [hR,hfe (by simp [hqe]),if_pos hqe]
   refine Aq ?_
   refine xe rfl ?_
   have fz:=k3
   refine Cq ?_
   refine Aq ?_
   refine rnd_stop (by simp) rfl ?_
   refine Aq ?_
   exact fI (h:=hR.symm)
 have k3:iLe 8 qO=false:=by simp only [ee];simp;omega
 refine Aq ?_
 refine xe rfl ?_
 have fz:=k3
 refine Cq ?_
 refine Aq ?_
 exact wN rfl (hok2 (if_neg hqe)) (xV [.to 0,.gone,.gone,.gone,.gone,.gone,.gone,.to 7,.gone,.gone,.gone] [some 0,some 1,some 2,some 3,some 4,some 5,some 6,some 7,none,none] rfl ⟨rfl,rfl,rfl,rfl,rfl,rfl,rfl,rfl,trivial⟩ (by simp) (by simp) ⟨⟨by simp,rfl⟩,trivial,trivial,trivial,trivial,trivial,trivial,⟨by simp,rfl⟩,trivial,trivial,trivial,trivial⟩ ⟨ze (b:=0) rfl rfl rfl ⟨.refl _,trivial⟩,.dead,.dead,.dead,.dead,.dead,.dead,.some 7 _ _ rfl rfl rfl (.loop _ _ _ _ _ _ _ _ ⟨.cl hip,.refl _,trivial⟩),.dead,.dead,trivial⟩)
def wB (s:Int × Int × Bool) (q:Pat):Int × Int × Bool :=
 ((if zD q.op then s.1+1 else s.1),(if yD q.op then s.2.1+1 else s.2.1),(s.2.2 && (!zD q.op || q.var == s.1)) && (!yD q.op || q.scope == s.2.1))
def zC (l:List Pat):Int × Int × Bool:=l.foldl wB (0,0,true)
theorem xY (d:List Pat) (q:Pat):zC (d++[q])=wB (zC d) q:=by simp [zC]
theorem cfold_bd (d:List Pat):0≤(zC d).1∧(zC d).1≤d.length∧0≤(zC d).2.1∧(zC d).2.1≤d.length:=by
 have:∀ (l:List Pat) (s:Int × Int × Bool),s.1≤(l.foldl wB s).1∧(l.foldl wB s).1≤s.1+l.length∧s.2.1≤(l.foldl wB s).2.1∧(l.foldl wB s).2.1≤s.2.1+l.length:=by
  intro l
  induction l with
  | nil=>intro s;simp
  | cons q r ih =>
   intro s
   have:=ih (wB s q)
   simp only [List.foldl_cons,List.length_cons]
   simp only [wB] at this ⊢
   split at this<;>split at this<;>simp_all<;>omega
 have:=this d (0,0,true)
 simpa [zC] using this
theorem P_count (p:Pat) (hs:p.Sm) (hop:∀ q∈p.nodes,0≤q.op∧q.op<11):PCall EE 81 [p.enc] (.tup [int (zC p.nodes).1,int (zC p.nodes).2.1,bool (zC p.nodes).2.2]):=by
 have hcl:=Pat.closed p
 have hcnt:=Pat.nodes_len p
 have hs1:=hs.1
 obtain ⟨pcs,hpe⟩:=Pat.some_cells p
 have hpre:=P_preorder p hpe
 obtain ⟨pO,pA,pT,pV,pS,pN,pCo,pCa,pCv,pCf,pCk,pXk,pXn,pXt,hx⟩:=Pat.form p
 rw [hx] at hcl hpe ⊢
 injection hpe with hpe
 subst hpe
 have hip:(AV.fn 155 [.iptr [int pO,.isl 14 pA,int pT,int pV,int pS,int pN,int pCo,.isl 8 pCa,int pCv,int pCf,int pCk,int pXk,int pXn,str pXt]]).closed=true:=by simp only [zA,AV.closedL,zd,Bool.and_true];exact hcl
 refine zr ?_;unhygienic intros
 refine fB T81 [.t 2,.t 3,.t 4] ?_
 refine Aq ?_
 refine oPA hpre ?_
 refine Aq ?_
 refine xM (F':=[(11,.fn 155 [.iptr [int pO,.isl 14 pA,int pT,int pV,int pS,int pN,int pCo,.isl 8 pCa,int pCv,int pCf,int pCk,int pXk,int pXn,str pXt]]),(5,.ptr 0 0),(6,.ptr 1 0),(7,.ptr 2 0)]) (H':=[.cells [int 0],.cells [int 0],.cells [bool true],.dead,.dead,.dead,.dead]) ?_ ?_
 · exact (eS [.gone,.to 0,.to 1,.to 2] [some 1,some 2,some 3,none,none,none,none])
 refine on_preorder (fun d=>.cells [int (zC d).1]) (fun d=>.cells [int (zC d).2.1]) (fun d=>.cells [bool (zC d).2.2]) (fun _=>.dead) (fun _=>.dead) (fun _=>.dead) (fun _=>.dead) (fun _=>.dead) (fun _=>.dead) (fun _=>True) p hs hx rfl rfl ⟨.cl hip,.ptr (by decide),.ptr (by decide),.ptr (by decide),trivial⟩ trivial ?_ (fun _=>.cells ⟨.cl rfl,trivial⟩) (fun _=>.cells ⟨.cl rfl,trivial⟩) (fun _=>.cells ⟨.cl rfl,trivial⟩) (fun _=>.dead) (fun _=>.dead) (fun _=>.dead) (fun _=>.dead) (fun _=>.dead) (fun _=>.dead) (fun _=>?_) (fun d q r hd _=>?_)
 · exact (xV [.to 0,.to 1,.to 2,.gone,.gone,.gone,.gone,.to 7] [some 0,some 1,some 2,some 3,some 4,some 5,some 6,some 7,none,none] rfl ⟨rfl,rfl,rfl,rfl,rfl,rfl,rfl,rfl,trivial⟩ (by simp) (by simp) ⟨⟨by simp,rfl⟩,⟨by simp,rfl⟩,⟨by simp,rfl⟩,trivial,trivial,trivial,trivial,⟨by simp,rfl⟩,trivial⟩ ⟨ze (b:=0) rfl rfl rfl ⟨.refl _,trivial⟩,ze (b:=1) rfl rfl rfl ⟨.refl _,trivial⟩,ze (b:=2) rfl rfl rfl ⟨.refl _,trivial⟩,.dead,.dead,.dead,.dead,.some 7 _ _ rfl rfl rfl (.loop _ _ _ _ _ _ _ _ ⟨.cl hip,.refl _,.refl _,.refl _,trivial⟩),.dead,.dead,trivial⟩)
 · generalize (zC p.nodes).1=c1 at *
   generalize (zC p.nodes).2.1=c2 at *
   generalize (zC p.nodes).2.2=c3 at *
   refine Aq ?_
   exact fE [.gone,.gone,.gone,.gone,.gone,.gone,.gone,.gone,.gone,.gone]
 have hqc:=Pat.closed q
 have hqo:=hop q (by rw [hd];simp)
 have hrow:=shape_row hqo.1 hqo.2
 have hb:=cfold_bd d
 have hdl:d.length≤1048576:=by have:=congrArg List.length hd;simp at this;omega
 have e1:(zC (d++[q])).1=_:=congrArg (fun s=>s.1) (xY d q)
 have e2:(zC (d++[q])).2.1=_:=congrArg (fun s=>s.2.1) (xY d q)
 have e3:(zC (d++[q])).2.2=_:=congrArg (fun s=>s.2.2) (xY d q)
 dsimp only [wB] at e1 e2 e3
 have hrw:rowA (Classical.choice wj).g q.op 6=[int (wE q.op),int (vC q.op),bool (zD q.op),bool (xO q.op),bool (yD q.op),bool (y8 q.op)]:=by rw [e_rowA];exact hrow
 generalize wE q.op=lo at *
 generalize vC q.op=mo at *
 generalize hty:zD q.op=ty at *
 generalize xO q.op=cd at *
 generalize hsc:yD q.op=sc at *
 generalize y8 q.op=sp at *
 clear hrow
 obtain ⟨qO,qA,qT,qV,qS,qN,qCo,qCa,qCv,qCf,qCk,qXk,qXn,qXt,hx2,hx2c,hqO,hqA,hqT,hqV,hqS,hqN⟩:=Pat.form2 q
 rw [hx2] at hqc ⊢
 simp only [← hqO,← hqV,← hqS] at *
 generalize (zC d).1=c1 at *
 generalize (zC d).2.1=c2 at *
 generalize (zC d).2.2=c3 at *
 generalize (zC (d++[q])).1=f1 at *
 generalize (zC (d++[q])).2.1=f2 at *
 generalize (zC (d++[q])).2.2=f3 at *
 clear hx2 hx2c hqO hqA hqT hqV hqS hqN hty hsc
 have a1:iAdd .i64 c1 1=c1+1:=ww e_iAdd (by omega) (by omega)
 have a2:iAdd .i64 c2 1=c2+1:=ww e_iAdd (by omega) (by omega)
 cases ty<;>cases sc
 · have e1:c1=f1:=by simpa using e1.symm
   have e2:c2=f2:=by simpa using e2.symm
   have e3:c3=f3:=by simpa using e3.symm
   refine Aq ?_
   refine xe rfl ?_
   have fz:=hrw
   refine Cq ?_
   refine Aq ?_
   exact wN rfl trivial (xV [.to 0,.to 1,.to 2,.gone,.gone,.gone,.gone,.to 7,.gone,.gone,.gone,.gone] [some 0,some 1,some 2,some 3,some 4,some 5,some 6,some 7,none,none] rfl ⟨rfl,rfl,rfl,rfl,rfl,rfl,rfl,rfl,trivial⟩ (by simp) (by simp) ⟨⟨by simp,rfl⟩,⟨by simp,rfl⟩,⟨by simp,rfl⟩,trivial,trivial,trivial,trivial,⟨by simp,rfl⟩,trivial,trivial,trivial,trivial,trivial⟩ ⟨ze (b:=0) rfl rfl rfl ⟨.of (congrArg int (by assumption)),trivial⟩,ze (b:=1) rfl rfl rfl ⟨.of (congrArg int (by assumption)),trivial⟩,ze (b:=2) rfl rfl rfl ⟨.of (congrArg bool (by assumption)),trivial⟩,.dead,.dead,.dead,.dead,.some 7 _ _ rfl rfl rfl (.loop _ _ _ _ _ _ _ _ ⟨.cl hip,.refl _,.refl _,.refl _,trivial⟩),.dead,.dead,trivial⟩)
 · have e1:c1=f1:=by simpa using e1.symm
   have e2:iAdd .i64 c2 1=f2:=by rw [a2];simpa using e2.symm
   have e3:bAnd c3 (iEq qS c2)=f3:=by simp only [ee];simpa using e3.symm
   refine Aq ?_
   refine xe rfl ?_
   have fz:=hrw
   refine Cq ?_
   refine Aq ?_
   exact wN rfl trivial (xV [.to 0,.to 1,.to 2,.gone,.gone,.gone,.gone,.to 7,.gone,.gone,.gone,.gone] [some 0,some 1,some 2,some 3,some 4,some 5,some 6,some 7,none,none] rfl ⟨rfl,rfl,rfl,rfl,rfl,rfl,rfl,rfl,trivial⟩ (by simp) (by simp) ⟨⟨by simp,rfl⟩,⟨by simp,rfl⟩,⟨by simp,rfl⟩,trivial,trivial,trivial,trivial,⟨by simp,rfl⟩,trivial,trivial,trivial,trivial,trivial⟩ ⟨ze (b:=0) rfl rfl rfl ⟨.of (congrArg int (by assumption)),trivial⟩,ze (b:=1) rfl rfl rfl ⟨.of (congrArg int (by assumption)),trivial⟩,ze (b:=2) rfl rfl rfl ⟨.of (congrArg bool (by assumption)),trivial⟩,.dead,.dead,.dead,.dead,.some 7 _ _ rfl rfl rfl (.loop _ _ _ _ _ _ _ _ ⟨.cl hip,.refl _,.refl _,.refl _,trivial⟩),.dead,.dead,trivial⟩)
 · have e1:iAdd .i64 c1 1=f1:=by rw [a1];simpa using e1.symm
   have e2:c2=f2:=by simpa using e2.symm
   have e3:bAnd c3 (iEq qV c1)=f3:=by simp only [ee];simpa using e3.symm
   refine Aq ?_
   refine xe rfl ?_
   have fz:=hrw
   refine Cq ?_
   refine Aq ?_
   exact wN rfl trivial (xV [.to 0,.to 1,.to 2,.gone,.gone,.gone,.gone,.to 7,.gone,.gone,.gone,.gone] [some 0,some 1,some 2,some 3,some 4,some 5,some 6,some 7,none,none] rfl ⟨rfl,rfl,rfl,rfl,rfl,rfl,rfl,rfl,trivial⟩ (by simp) (by simp) ⟨⟨by simp,rfl⟩,⟨by simp,rfl⟩,⟨by simp,rfl⟩,trivial,trivial,trivial,trivial,⟨by simp,rfl⟩,trivial,trivial,trivial,trivial,trivial⟩ ⟨ze (b:=0) rfl rfl rfl ⟨.of (congrArg int (by assumption)),trivial⟩,ze (b:=1) rfl rfl rfl ⟨.of (congrArg int (by assumption)),trivial⟩,ze (b:=2) rfl rfl rfl ⟨.of (congrArg bool (by assumption)),trivial⟩,.dead,.dead,.dead,.dead,.some 7 _ _ rfl rfl rfl (.loop _ _ _ _ _ _ _ _ ⟨.cl hip,.refl _,.refl _,.refl _,trivial⟩),.dead,.dead,trivial⟩)
 have e1:iAdd .i64 c1 1=f1:=by rw [a1];simpa using e1.symm
 have e2:iAdd .i64 c2 1=f2:=by rw [a2];simpa using e2.symm
 have e3:bAnd (bAnd c3 (iEq qV c1)) (iEq qS c2)=f3:=by simp only [ee];simpa using e3.symm
 refine Aq ?_
 refine xe rfl ?_
 have fz:=hrw
 refine Cq ?_
 refine Aq ?_
 exact wN rfl trivial (xV [.to 0,.to 1,.to 2,.gone,.gone,.gone,.gone,.to 7,.gone,.gone,.gone,.gone] [some 0,some 1,some 2,some 3,some 4,some 5,some 6,some 7,none,none] rfl ⟨rfl,rfl,rfl,rfl,rfl,rfl,rfl,rfl,trivial⟩ (by simp) (by simp) ⟨⟨by simp,rfl⟩,⟨by simp,rfl⟩,⟨by simp,rfl⟩,trivial,trivial,trivial,trivial,⟨by simp,rfl⟩,trivial,trivial,trivial,trivial,trivial⟩ ⟨ze (b:=0) rfl rfl rfl ⟨.of (congrArg int (by assumption)),trivial⟩,ze (b:=1) rfl rfl rfl ⟨.of (congrArg int (by assumption)),trivial⟩,ze (b:=2) rfl rfl rfl ⟨.of (congrArg bool (by assumption)),trivial⟩,.dead,.dead,.dead,.dead,.some 7 _ _ rfl rfl rfl (.loop _ _ _ _ _ _ _ _ ⟨.cl hip,.refl _,.refl _,.refl _,trivial⟩),.dead,.dead,trivial⟩)
def xP (l:List Pat):List Int:=(l.filter fun q=>decide (q.op=0)).map Pat.var
def Pat.bound (p:Pat):List Int:=Lib.compact (yH (xP p.nodes))
theorem bndF_snoc (d:List Pat) (q:Pat):xP (d++[q])=if q.op=0 then xP d++[q.var] else xP d:=by
 unfold xP
 rw [List.filter_append,List.map_append]
 by_cases h:q.op=0<;>simp [h]
theorem bndF_len (d:List Pat):(xP d).length≤d.length:=by
 unfold xP;rw [List.length_map];exact List.length_filter_le ..
theorem ud (l:List Int):(yH l).length=l.length:=by simp [yH,List.length_mergeSort]
theorem enters_slices_Sort___int_int_ : yr EE.P 146:=enters_of rfl (by decide) T146.2
theorem enters_slices_Compact___int_int_ : yr EE.P 147:=enters_of rfl (by decide) T147.2
theorem C_Sort (l:List Int) (hl:l.length<4611686018427387904):ACall EE 146 [.sl 0 1 0 l.length] [.arr 1 (mapE int l)] fun v H'=>v=.tup []∧H'=[.arr 1 (mapE int (yH l))]:=by
 have:=sort_acall (E:=EE) Tryz.lays189 l hl
 rw [zk,zk]
 exact this
theorem C_Compact (l:List Int) (hl:l.length<4611686018427387904):ACall EE 147 [.sl 0 1 0 l.length] [.arr 1 (mapE int l)] fun v H'=>v=.sl 0 1 0 (Lib.compact l).length∧H'=[.arr 1 (mapE int (x5 l))]:=by
 have:=comp_acall (E:=EE) Tryz.laysNm220 l (by omega)
 rw [zk,zk]
 exact this
theorem P_Bound (p:Pat) (hs:p.Sm):PCall EE 109 [p.enc] (.isl 1 (mapE int p.bound)):=by
 have hcl:=Pat.closed p
 have hcnt:=Pat.nodes_len p
 have hs1:=hs.1
 obtain ⟨R,hR⟩:∃ R,R=p.bound:=⟨_,rfl⟩
 rw [← hR]
 unfold Pat.bound at hR
 obtain ⟨pcs,hpe⟩:=Pat.some_cells p
 have hpre:=P_preorder p hpe
 obtain ⟨pO,pA,pT,pV,pS,pN,pCo,pCa,pCv,pCf,pCk,pXk,pXn,pXt,hx⟩:=Pat.form p
 rw [hx] at hcl hpe ⊢
 injection hpe with hpe
 subst hpe
 have hip:(AV.fn 155 [.iptr [int pO,.isl 14 pA,int pT,int pV,int pS,int pN,int pCo,.isl 8 pCa,int pCv,int pCf,int pCk,int pXk,int pXn,str pXt]]).closed=true:=by simp only [zA,AV.closedL,zd,Bool.and_true];exact hcl
 have hpA:(AV.isl 14 pA).closed=true:=by have:=hcl;simp [AV.closed,AV.closedL] at this ⊢;exact this.1
 have hpCa:(AV.isl 8 pCa).closed=true:=by have:=hcl;simp [AV.closed,AV.closedL] at this ⊢;exact this.2
 have hnil:mapE int []=[]:=by rw [zk];rfl
 refine zr ?_;unhygienic intros
 refine fB T109 [.t 2] ?_
 refine Aq ?_
 refine oPA hpre ?_
 refine Aq ?_
 refine xM (F':=[(6,.fn 155 [.iptr [int pO,.isl 14 pA,int pT,int pV,int pS,int pN,int pCo,.isl 8 pCa,int pCv,int pCf,int pCk,int pXk,int pXn,str pXt]]),(3,.ptr 0 0)]) (H':=[.cells [.val (.slice none 0 0)],.dead,.dead,.dead,.dead,.dead,.dead]) ?_ ?_
 · exact (eS [.gone,.to 0] [some 1,none,none,none,none,none,none])
 refine on_preorder (fun d=>.cells [.sl 8 1 0 (xP d).length]) (fun _=>.dead) (fun _=>.dead) (fun _=>.dead) (fun _=>.dead) (fun _=>.dead) (fun _=>.dead) (fun d=>.arr 1 (mapE int (xP d))) (fun _=>.dead) (fun _=>True) p hs hx rfl rfl ⟨.cl hip,.ptr (by decide),trivial⟩ trivial ?_ (fun _=>.cells ⟨.sl (by decide),trivial⟩) (fun _=>.dead) (fun _=>.dead) (fun _=>.dead) (fun _=>.dead) (fun _=>.dead) (fun _=>.dead) (fun _=>.arr (zU _)) (fun _=>.dead) (fun _=>?_) (fun d q r hd _=>?_)
 · have e:xP []=[]:=rfl
   rw [e,hnil]
   exact (xV [.to 0,.gone,.gone,.gone,.gone,.gone,.gone,.to 7] [some 0,some 1,some 2,some 3,some 4,some 5,some 6,some 7,none,none] rfl ⟨rfl,rfl,rfl,rfl,rfl,rfl,rfl,rfl,trivial⟩ (by simp) (by simp) ⟨⟨by simp,rfl⟩,trivial,trivial,trivial,trivial,trivial,trivial,⟨by simp,rfl⟩,trivial⟩ ⟨ze (b:=0) rfl rfl rfl ⟨.nilS _ _ _ (by simp),trivial⟩,.dead,.dead,.dead,.dead,.dead,.dead,.some 7 _ _ rfl rfl rfl (.loop _ _ _ _ _ _ _ _ ⟨.cl hip,.refl _,trivial⟩),.none _ rfl,.dead,trivial⟩)
 · have hbl:=bndF_len p.nodes
   have hR2:mapE int R=(mapE int (x5 (yH (xP p.nodes)))).take R.length:=by
    rw [hR,x5,zk,zk,List.map_append,List.take_left' (by simp)]
   have hle:R.length≤(mapE int (x5 (yH (xP p.nodes)))).length:=by
    rw [hR,zq,compI_len];exact vW _
   have hss:=C_Sort (xP p.nodes) (by omega)
   have hcc:=C_Compact (yH (xP p.nodes)) (by rw [ud];omega)
   rw [← hR,ud] at hcc
   have c1:=zU (xP p.nodes)
   have c2:=zU (yH (xP p.nodes))
   have c3:=zU (x5 (yH (xP p.nodes)))
   generalize R.length=rl at *
   generalize (xP p.nodes).length=m1 at *
   generalize mapE int (x5 (yH (xP p.nodes)))=w3 at *
   generalize mapE int (yH (xP p.nodes))=w2 at *
   generalize mapE int (xP p.nodes)=w1 at *
   generalize mapE int R=rs at *
   refine Aq ?_
   refine wO [8] rfl rfl enters_slices_Sort___int_int_ hss (by decide) (by simp) (by show _=[AObj.arr 1 (AV.subL _ w1)];rw [zp _ c1]) rfl ?_
   rintro v0 H' ⟨rfl,rfl⟩ -
   refine xu (F':=[(3,.ptr 0 0)]) (H':=[.cells [.sl 1 1 0 m1],.arr 1 w2]) ?_ ?_
   · exact (eS [.to 0,.gone,.gone,.gone,.gone,.gone,.gone,.gone,.to 1,.gone] [some 0,some 8])
   refine Aq ?_
   refine wO [1] rfl rfl enters_slices_Compact___int_int_ hcc (by decide) (by simp) (by show _=[AObj.arr 1 (AV.subL _ w2)];rw [zp _ c2]) rfl ?_
   rintro v0 H' ⟨rfl,rfl⟩ -
   refine xu (F':=[(19,.sl 0 1 0 rl)]) (H':=[.arr 1 w3]) ?_ ?_
   · exact (eS [.gone,.to 0] [some 1])
   refine Aq ?_
   refine zR rfl rfl ?_
   exact ⟨[.isl 1 w3],⟨⟨w3,rfl,(zp _ c3).symm⟩,trivial⟩,.of (sub_part rfl (by simpa using hle) (by simpa using hR2.symm))⟩
 have hqc:=Pat.closed q
 have hdl:d.length<1048576:=by have:=congrArg List.length hd;simp at this;omega
 have hbl:=bndF_len d
 have e1:=bndF_snoc d q
 generalize xP (d++[q])=b2 at *
 generalize xP d=b1 at *
 obtain ⟨qO,qA,qT,qV,qS,qN,qCo,qCa,qCv,qCf,qCk,qXk,qXn,qXt,hx2,hx2c,hqO,hqA,hqT,hqV,hqS,hqN⟩:=Pat.form2 q
 rw [hx2] at hqc ⊢
 simp only [← hqO,← hqV,← hqS] at *
 clear hx2 hx2c hqO hqA hqT hqV hqS hqN
 by_cases hq0:qO=0
 · have k1:iEq qO 0=true:=by simp only [ee];simpa using hq0
   rw [if_pos hq0] at e1
   have e2:mapE int b2=mapE int b1++[int qV]:=by rw [e1,zk,zk,List.map_append];rfl
   have e3:b2.length=b1.length+1:=by rw [e1];simp
   have hml:(mapE int b1).length=b1.length:=zq ..
   have hcb:=zU b1
   generalize b2.length=m2 at *
   generalize b1.length=m1 at *
   generalize mapE int b2=w2 at *
   generalize mapE int b1=w1 at *
   have e4:w2=catA (dropA w1 0) (partA [int qV] 0 1):=by simp only [ee];simpa using e2
   have e5:m2=addN m1 (lenN (partA [int qV] 0 1)):=by simp only [ee];simpa using e3
   have hcb2:AV.closedL (catA (dropA w1 0) (partA [int qV] 0 1))=true:=by simp only [ee];exact closedL_append (by simpa using hcb) rfl
   clear e2 e3 e1
   subst e4 e5
   refine Aq ?_
   refine xe rfl ?_
   have fz:=k1
   refine Cq ?_
   refine Aq ?_
   exact wN rfl trivial (xV [.to 0,.gone,.gone,.gone,.gone,.gone,.gone,.to 7,.gone,.gone,.gone,.gone,.to 8] [some 0,some 1,some 2,some 3,some 4,some 5,some 6,some 7,some 12,none] rfl ⟨rfl,rfl,rfl,rfl,rfl,rfl,rfl,rfl,trivial⟩ (by simp) (by simp) ⟨⟨by simp,rfl⟩,trivial,trivial,trivial,trivial,trivial,trivial,⟨by simp,rfl⟩,trivial,trivial,trivial,trivial,⟨by simp,rfl⟩,trivial⟩ ⟨ze (b:=0) rfl rfl rfl ⟨.refl _,trivial⟩,.dead,.dead,.dead,.dead,.dead,.dead,.some 7 _ _ rfl rfl rfl (.loop _ _ _ _ _ _ _ _ ⟨.cl hip,.refl _,trivial⟩),yE (b:=12) rfl rfl rfl rfl hcb2,.dead,trivial⟩)
 have k1:iEq qO 0=false:=by simp only [ee];simpa using hq0
 rw [if_neg hq0] at e1
 rw [e1]
 have hcb:=zU b1
 generalize b1.length=m1 at *
 generalize mapE int b1=w1 at *
 refine Aq ?_
 refine xe rfl ?_
 have fz:=k1
 refine Cq ?_
 refine Aq ?_
 exact wN rfl trivial (xV [.to 0,.gone,.gone,.gone,.gone,.gone,.gone,.to 7,.to 8,.gone,.gone] [some 0,some 1,some 2,some 3,some 4,some 5,some 6,some 7,some 8,none] rfl ⟨rfl,rfl,rfl,rfl,rfl,rfl,rfl,rfl,trivial⟩ (by simp) (by simp) ⟨⟨by simp,rfl⟩,trivial,trivial,trivial,trivial,trivial,trivial,⟨by simp,rfl⟩,⟨by simp,rfl⟩,trivial,trivial,trivial⟩ ⟨ze (b:=0) rfl rfl rfl ⟨.refl _,trivial⟩,.dead,.dead,.dead,.dead,.dead,.dead,.some 7 _ _ rfl rfl rfl (.loop _ _ _ _ _ _ _ _ ⟨.cl hip,.refl _,trivial⟩),yE (b:=8) rfl rfl rfl rfl hcb,.dead,trivial⟩)
end Go.Am
end
