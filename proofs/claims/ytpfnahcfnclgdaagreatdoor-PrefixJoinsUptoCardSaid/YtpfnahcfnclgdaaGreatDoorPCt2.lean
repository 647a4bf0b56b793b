/- Contracts of the program's functions. -/
import Derived.Test.YtpfnahcfnclgdaaGreatDoorPCt1
import Derived.Test.YtpfnahcfnclgdaaGreatDoorCards
import Derived.Test.YtpfnahcfnclgdaaGreatDoorProg
import Derived.Test.YtpfnahcfnclgdaaGreatDoorRows
import Derived.Test.YtpfnahcfnclgdaaGreatDoorTie
section
set_option maxHeartbeats 16000000
set_option maxRecDepth 100000
namespace Go.Am
open Go.Proofs Go.ChangeShapes Go.WideShapes Go.ChangeAt Go.RowKit
theorem gShapes : Tryz.prog.globalNamed "tidegate/pattern.shapes" = some 0:=by kernel_rfl
theorem gShapesT : ∃ t,(Tryz.prog.globals[0]?).map (·.type)=some t∧tT Tryz.prog 8 t=true:=⟨_,rfl,by kernel_rfl⟩
theorem glob_of_laid {laid:List (String × DataW Unit)} (hm:("tidegate/pattern.shapes",Proofs.YtpfnahcfnclgdaaGreatDoor.Rows.laid_tidegate_pattern_shapes)∈laid) {W:World} (h:laidMet Tryz.prog laid W) :
 ∀ g,VRep (Ctx.of (fun _=>none) fun b=>b<W.heap.size) 0 W (EE.G g) (.pointer (some ⟨g,0,none⟩)):=by
 intro g
 obtain ⟨ps,hv,_⟩:=h
 obtain ⟨t,ht,hf⟩:=gShapesT
 have hc:=laid_cells hv hm gShapes ht hf
 show VRep _ 0 W (cond (Nat.beq g 0) (.iptr (Classical.choice vY).g) .undef) _
 cases hb:Nat.beq g 0 with
 | false=>exact .undef _
 | true =>
  obtain rfl:=Nat.eq_of_beq_eq_true hb
  have e:rz (H:=Unit) Proofs.YtpfnahcfnclgdaaGreatDoor.Rows.laid_tidegate_pattern_shapes=shapesL:=by rfl
  rw [e] at hc
  exact glob_rep hc gShapes (Classical.choice vY).h (by
   intro v hv c h
   subst h
   have h2:shapesL.all (fun v=>match v with | .agg _=>false | _=>true)=true:=by rfl
   exact Bool.noConfusion (List.all_eq_true.1 h2 _ hv))
noncomputable def laidWorld (os:Os):World :=
 { World.holding Tryz.prog os ⟨#[],#[],[]⟩ with heap:=(World.holding Tryz.prog os ⟨#[],#[],[]⟩).heap.modify 0 fun
  | .cells _ t frozen=>.cells #[.int .i64 0,.int .i64 0,.bool true,.bool true,.bool false,.bool false,
 .int .i64 2,.int .i64 64,.bool false,.bool false,.bool false,.bool false,
 .int .i64 2,.int .i64 64,.bool false,.bool false,.bool false,.bool false,
 .int .i64 2,.int .i64 64,.bool false,.bool false,.bool false,.bool false,
 .int .i64 1,.int .i64 1,.bool false,.bool false,.bool false,.bool false,
 .int .i64 1,.int .i64 1,.bool true,.bool true,.bool true,.bool false,
 .int .i64 1,.int .i64 1,.bool false,.bool false,.bool true,.bool true,
 .int .i64 1,.int .i64 1,.bool false,.bool true,.bool false,.bool false,
 .int .i64 2,.int .i64 2,.bool false,.bool false,.bool false,.bool false,
 .int .i64 1,.int .i64 1,.bool true,.bool true,.bool true,.bool false,
 .int .i64 1,.int .i64 1,.bool false,.bool false,.bool true,.bool true] t frozen
  | o=>o }
end Go.Am
end
noncomputable section
set_option maxHeartbeats 16000000
set_option maxRecDepth 100000
namespace Go.Am
open Go.Proofs
theorem wi : ∀ x y:Ex,x.Sm→PCall EE 33 [x.enc,y.enc] (bool (eqB x y)):=by
 refine Ex.ind ?_
 intro o a v f k x ih y hs
 obtain ⟨o2,a2,v2,f2,k2,x2⟩:=y
 obtain ⟨xk,xn,xt⟩:=x
 obtain ⟨yk,yn,yt⟩:=x2
 have hlen:=hs.len
 have hih:∀ q∈a,∀ q2,PCall EE 33 [q.enc,q2.enc] (bool (eqB q q2)):=fun q hq q2=>ih q hq q2 (hs.arg hq)
 have hcl:=Ex.closedI a
 have hcl2:=Ex.closedI a2
 obtain ⟨R,hR⟩:∃ R,R=eqB (Ex.mk o a v f k ⟨xk,xn,xt⟩) (Ex.mk o2 a2 v2 f2 k2 ⟨yk,yn,yt⟩):=⟨_,rfl⟩
 rw [← hR,Ex.enc_mk,Ex.enc_mk]
 clear ih hs
 refine zo ?_;unhygienic intros
 generalize hes:zy Ex.enc a=es at *
 generalize hes2:zy Ex.enc a2=es2 at *
 have hel:es.length=a.length:=by rw [← hes,zp]
 have hel2:es2.length=a2.length:=by rw [← hes2,zp]
 refine fB T33 [.t 4] ?_
 refine goA 0 ?_
 refine oC (fun c1=>?_) fun c1=>?_
 · simp [ee] at c1
   have hR:R=false:=by
    rw [hR];refine xl fun h=>?_
    simp only [Ex.mk.injEq,Vl.mk.injEq] at h
    obtain ⟨rfl,rfl,rfl,rfl,rfl,rfl,rfl,rfl⟩:=h
    simp [hel,hel2] at c1
   refine Aq ?_
   exact fBo (h:=hR.symm)
 simp [ee] at c1
 obtain ⟨⟨⟨⟨⟨h1,h2⟩,h3⟩,h4⟩,⟨h5,h6,h7⟩⟩,h8⟩:=c1
 have h7:=sN h7
 subst h1 h2 h3 h4 h5 h6 h7
 have hl8:a.length=a2.length:=by omega
 have hR:R=eqB a a2:=by
  rw [hR]
  by_cases h:a=a2
  · rw [h,xF rfl,xF rfl]
  rw [xl h,xl (by simp [h])]
 refine Aq ?_
 refine ze (ι:=List Ex × List Ex × List Ex × List Ex × Int) (fun p=>([(51,int p.2.2.2.2),(50,int (lenA es)),(2,.ptr 0 0),(3,.ptr 1 0)],[.cells [int o,.isl 8 es,int v,int f,int k,int xk,int xn,str xt],.cells [int o,.isl 8 es2,int v,int f,int k,int xk,int xn,str xt]])) (fun p=>a=p.1++p.2.1∧a2=p.2.2.1++p.2.2.2.1∧p.2.2.2.2=p.1.length∧p.1=p.2.2.1) (fun p=>p.2.1.length) ([],a,[],a2,0) ⟨rfl,rfl,rfl,rfl⟩ ?_ ?_
 · exact (eS [.to 0,.to 1] [some 0,some 1])
 rintro ⟨d,r,d2,r2,i⟩ ⟨g1,g2,gi,gd⟩
 dsimp only at g1 g2 gi gd ⊢
 subst gd
 cases r with
 | nil =>
  have L1:=lS g1
  have hc:iLt i (lenA es)=false:=xR e_iLt e_lenA (by omega)
  have L2:=lS g2
  have hr2:r2=[]:=List.length_eq_zero_iff.1 (by omega)
  have hR:R=true:=by rw [hR];exact xF (by rw [g1,g2,hr2])
  have fz:=hc
  refine Cq ?_
  refine Aq ?_
  refine zk ?_
  refine Aq ?_
  exact fBo (h:=hR.symm)
 | cons q r =>
  have L1:=lS g1
  have hc:iLt i (lenA es)=true:=xU e_iLt e_lenA (by omega)
  have hat:=yX e_atA hes g1 gi
  have L2:=lS g2
  cases r2 with
  | nil=>exfalso;simp at L2;omega
  | cons q2 r2 =>
   have hat2:=yX e_atA hes2 g2 gi
   have hq:=hih q (by rw [g1];simp) q2
   have hqc:=Ex.closed q
   have hqc2:=Ex.closed q2
   obtain ⟨qO,qA,qV,qF,qK,qXk,qXn,qXt,hx⟩:=Ex.form q
   obtain ⟨q2O,q2A,q2V,q2F,q2K,q2Xk,q2Xn,q2Xt,hx2⟩:=Ex.form q2
   rw [hx,hx2] at hq
   rw [hx] at hat hqc
   rw [hx2] at hat2 hqc2
   have hi2:iAdd .i64 i 1=((d++[q]).length:Int):=by rw [List.length_append];exact yh e_iAdd gi (by omega)
   by_cases hqq:q=q2
   · rw [xF hqq] at hq
     have hn:bNot true=false:=by simp [ee]
     have fz:=And.intro hc (And.intro hat (And.intro hat2 hn))
     refine Cq ?_
     refine Cr ?_
     refine zX rfl (by conv=>lhs;cbv) rfl ?_
     refine tgC ?_
     refine oPT hq ?_
     refine tgA ?_
     refine zK ⟨rfl,?_,?_⟩
     · simp only [zJ,zd,List.cons_append,List.nil_append,List.append_nil];and_intros<;>first | trivial | (intro hp;first | rfl | exact absurd (show false=true from hp) Bool.false_ne_true)
     refine Cq ?_
     refine Aq ?_
     refine zm (d++[q],r,d++[q2],r2,iAdd .i64 i 1) ⟨by simp [g1],by simp [g2],hi2,by simp [hqq]⟩ (by simp) (eS [.to 0,.to 1] [some 0,some 1])
   rw [xl hqq] at hq
   have hn:bNot false=true:=by simp [ee]
   have hR:R=false:=by rw [hR];exact xl (by rw [g1,g2];simp [hqq])
   have fz:=And.intro hc (And.intro hat (And.intro hat2 hn))
   refine Cq ?_
   refine Cr ?_
   refine zX rfl (by conv=>lhs;cbv) rfl ?_
   refine tgC ?_
   refine oPT hq ?_
   refine tgA ?_
   refine zK ⟨rfl,?_,?_⟩
   · simp only [zJ,zd,List.cons_append,List.nil_append,List.append_nil];and_intros<;>first | trivial | (intro hp;first | rfl | exact absurd (show false=true from hp) Bool.false_ne_true)
   refine Cq ?_
   refine Aq ?_
   refine zf ?_
   refine Aq ?_
   exact fBo (h:=hR.symm)
theorem P_pattern_Size : ∀ p:Pat,p.Sm→PCall EE 133 [p.enc] (.tup [int p.cnt,int p.dep]):=by
 refine Pat.ind ?_
 intro o a t v s n c ih hs
 obtain ⟨co,ca,cv,cf,ck,cx⟩:=c
 have hlen:=hs.len
 have hih:∀ q∈a,PCall EE 133 [q.enc] (.tup [int q.cnt,int q.dep]):=fun q hq=>ih q hq (hs.arg hq)
 have hcl:=Pat.closedI a
 have hcnt:=hs.1
 simp only [Pat.cnt] at hcnt
 have hde:=fun q:Pat=>Pat.dep_le q
 simp only [Pat.cnt,Pat.dep]
 rw [Pat.enc_mk]
 refine zo ?_;unhygienic intros
 generalize hes:zy Pat.enc a=es at *
 have hel:es.length=a.length:=by rw [← hes,zp]
 generalize zy Ex.enc ca=ec
 refine fB T133 [.t 2,.t 3] ?_
 refine Aq ?_
 refine ze (ι:=List Pat × List Pat × Int × Int × Int) (fun p=>([(5,int p.2.2.2.2),(4,int p.2.2.2.1),(13,int p.2.2.1),(12,int (lenA es)),(11,.isl 14 es)],[])) (fun p=>a=p.1++p.2.1∧p.2.2.1=p.1.length∧p.2.2.2.1=1+Pat.cntL p.1∧Pat.depL 0 a=Pat.depL p.2.2.2.2.toNat p.2.1∧0≤p.2.2.2.2∧p.2.2.2.2≤1048576) (fun p=>p.2.1.length) ([],a,0,1,0) ⟨rfl,rfl,rfl,rfl,by simp⟩ ?_ ?_
 · exact (eS [.gone] [])
 rintro ⟨d,r,i,nn,dd⟩ ⟨g1,gi,gn,gd,gb⟩
 dsimp only at g1 gi gn gd gb ⊢
 cases r with
 | nil =>
  have L1:=lS g1
  have hc:iLt i (lenA es)=false:=xR e_iLt e_lenA (by omega)
  rw [List.append_nil] at g1
  rw [gd,Pat.depL,g1]
  have ha1:iAdd .i64 dd 1=((dd.toNat+1:Nat):Int):=by rw [uh e_iAdd (by omega) (by omega)];omega
  have hn:nn=((1+Pat.cntL d:Nat):Int):=by omega
  have fz:=hc
  refine Cq ?_
  refine Aq ?_
  refine zk ?_
  refine Aq ?_
  refine zP rfl rfl ?_
  exact ⟨[],trivial,.tup' ⟨.of (congrArg int hn),.of (congrArg int ha1),trivial⟩⟩
 | cons q r =>
  have L1:=lS g1
  have hc:iLt i (lenA es)=true:=xU e_iLt e_lenA (by omega)
  have hat:=yX e_atA hes g1 gi
  have hq:=hih q (by rw [g1];simp)
  have hqc:=Pat.closed q
  have hqd:=hde q
  rw [g1,Pat.cntL_append,Pat.cntL] at hcnt
  obtain ⟨qO,qA,qT,qV,qS,qN,qCo,qCa,qCv,qCf,qCk,qXk,qXn,qXt,hx⟩:=Pat.form q
  rw [hx] at hq hat hqc
  generalize hqn:(q.cnt:Int)=qn at hq
  generalize hqp:(q.dep:Int)=qp at hq
  have hn2:iAdd .i64 nn qn=1+Pat.cntL (d++[q]):=by rw [Pat.cntL_append,Pat.cntL,Pat.cntL,uh e_iAdd (by omega) (by omega)];omega
  have hi2:iAdd .i64 i 1=((d++[q]).length:Int):=by rw [List.length_append];exact yh e_iAdd gi (by omega)
  have hd2:iMax dd qp=((max dd.toNat q.dep:Nat):Int):=by simp only [ee];split<;>omega
  have fz:=And.intro hc hat
  refine Cq ?_
  refine Cr ?_
  refine oPA hq ?_
  refine Aq ?_
  refine zm (d++[q],r,iAdd .i64 i 1,iAdd .i64 nn qn,iMax dd qp) ⟨by simp [g1],hi2,hn2,by rw [gd,hd2,Pat.depL];rfl,by show 0≤iMax dd qp;omega,by show iMax dd qp≤1048576;omega⟩ (by simp) (eS [.gone] [])
theorem enters_pattern_walk : xu EE.P 147:=enters_of rfl (by decide) T147.2
theorem enters_pattern_preorder_1 : xu EE.P 146:=enters_of rfl (by decide) T146.2
theorem C_walk (A0 A1 A2 A3 A4 A5 A6:List Pat→AObj) (Lp:AObj) (C0 C1:List Pat→AObj) (G:List Pat→Prop) (S:zz→Prop) (hb:∀ d,∀ o∈[A0 d,A1 d,A2 d,A3 d,A4 d,A5 d,A6 d,Lp,C0 d,C1 d],Keeps o) :
 ∀ p:Pat,p.Sm→∀ (pre all:List Pat) (H0:zz),HEnt EE 8 7 H0 [A0 pre,A1 pre,A2 pre,A3 pre,A4 pre,A5 pre,A6 pre,Lp,C0 pre,C1 pre]→(∃ post,all=pre++(p.nodes++post))→G pre →
  (∀ d q r,all=d++q :: r→G d→AYield EE 7 [q.enc] [A0 d,A1 d,A2 d,A3 d,A4 d,A5 d,A6 d,Lp,C0 d,C1 d] (YdR EE (G (d++[q])) [A0 (d++[q]),A1 (d++[q]),A2 (d++[q]),A3 (d++[q]),A4 (d++[q]),A5 (d++[q]),A6 (d++[q]),Lp,C0 (d++[q]),C1 (d++[q])] S)) →
  ACallN EE 8 147 [p.enc,.yld 7] H0 (WkR (G (pre++p.nodes)) [A0 (pre++p.nodes),A1 (pre++p.nodes),A2 (pre++p.nodes),A3 (pre++p.nodes),A4 (pre++p.nodes),A5 (pre++p.nodes),A6 (pre++p.nodes),Lp,C0 (pre++p.nodes),C1 (pre++p.nodes)] S):=by
 refine Pat.ind ?_
 intro o a t v s n c ih hs pre all H0 h0 hpost hG hy
 have hlen:=hs.len
 obtain ⟨post,hall⟩:=hpost
 rw [Pat.nodes,List.cons_append] at hall
 have hyp:=hy pre _ _ hall hG
 obtain ⟨pp,hpp⟩:∃ pp,pp=Pat.mk o a t v s n c:=⟨_,rfl⟩
 rw [← hpp] at hall hyp
 have hnod:(Pat.mk o a t v s n c).nodes=pp :: Pat.nodesL a:=by rw [Pat.nodes,hpp]
 rw [hnod]
 have hpc:=Pat.closed pp
 have hpe:pp.enc=(Pat.mk o a t v s n c).enc:=by rw [hpp]
 have hih:∀ q∈a,_:=fun q hq=>ih q hq (hs.arg hq)
 have hcl:=Pat.closedI a
 have hcL:=Pat.closedL a
 obtain ⟨co,ca,cv,cf,ck,xk,xn,xt⟩:=c
 rw [Pat.enc_mk] at hpe ⊢
 dsimp only at hpe ⊢
 rw [hpe] at hyp hpc
 clear ih hpp hpe hs hnod
 refine zo ?_;unhygienic intros
 generalize hes:zy Pat.enc a=es at *
 generalize zy Ex.enc ca=ec at *
 have hel:es.length=a.length:=by rw [← hes,zp]
 have hpcl:AV.closedL [int o,.isl 14 es,int t,int v,int s,int n,int co,.isl 8 ec,int cv,int cf,int ck,int xk,int xn,str xt]=true:=hpc
 have hnt:bNot true=false:=by simp [ee]
 have hnf:bNot false=true:=by simp [ee]
 have hd:∀ d,∀ o∈[A0 d,A1 d,A2 d,A3 d,A4 d,A5 d,A6 d,Lp,C0 d,C1 d],o.sub (vt 10)=o:=fun d=>keeps_drop rfl (hb d)
 have hip:(AV.iptr [int o,.isl 14 es,int t,int v,int s,int n,int co,.isl 8 ec,int cv,int cf,int ck,int xk,int xn,str xt]).closed=true:=hpc
 refine nB T147 [.t 4] ?_
 refine sG (h0.ent (F':=[(0,.agg [int o,.isl 14 es,int t,int v,int s,int n,int co,.isl 8 ec,int cv,int cf,int ck,int xk,int xn,str xt]),(1,.yld 7)]) ⟨.cl hpc,.refl _,trivial⟩) ?_
 have hyall:∀ d q r,pre++pp :: (Pat.nodesL a++post)=d++q :: r→G d→_:=fun d q r h hg=>hy d q r (hall.trans h) hg
 refine goA 0 ?_
 refine on_fz10 (F':=[(8,.agg [int o,.isl 14 es,int t,int v,int s,int n,int co,.isl 8 ec,int cv,int cf,int ck,int xk,int xn,str xt]),(7,.yld 7),(2,.iptr [int o,.isl 14 es,int t,int v,int s,int n,int co,.isl 8 ec,int cv,int cf,int ck,int xk,int xn,str xt]),(1,.yld 7)]) (hb pre) hpcl ⟨.cl hpc,.refl _,.refl _,.refl _,trivial⟩ ?_
 refine on_callv rfl rfl rfl rfl hyp ?_
 rintro v1 H1 (⟨rfl,hG1,he⟩ | ⟨rfl,hS⟩)
 rotate_left
 · have fz:=hnf
   refine Cr ?_
   exact wo (.refl _ _ _ _ _) rfl (.inr ⟨rfl,hS⟩)
 refine wW (he.ent (F':=[(9,.val (.bool true)),(2,.iptr [int o,.isl 14 es,int t,int v,int s,int n,int co,.isl 8 ec,int cv,int cf,int ck,int xk,int xn,str xt]),(1,.yld 7)]) ⟨.refl _,.cl hip,.refl _,trivial⟩) ?_
 have fz:=hnt
 refine Cq ?_
 refine Aq ?_
 refine ze (ι:=List Pat × List Pat × Int × List Pat) (fun p=>([(14,int p.2.2.1),(13,int (lenA es)),(12,.isl 14 es),(1,.yld 7)],[A0 p.2.2.2,A1 p.2.2.2,A2 p.2.2.2,A3 p.2.2.2,A4 p.2.2.2,A5 p.2.2.2,A6 p.2.2.2,Lp,C0 p.2.2.2,C1 p.2.2.2])) (fun p=>a=p.1++p.2.1∧p.2.2.1=p.1.length∧p.2.2.2=pre++pp :: Pat.nodesL p.1∧G p.2.2.2) (fun p=>p.2.1.length) ([],a,0,pre++[pp]) ⟨rfl,rfl,by simp [Pat.nodesL],hG1⟩ ?_ ?_
 · exact yz ⟨.refl _,.refl _,.refl _,.refl _,trivial⟩
 rintro ⟨d,r,i,x⟩ ⟨g1,gi,gx,gG⟩
 dsimp only at g1 gi gx gG ⊢
 cases r with
 | nil =>
  have L1:=lS g1
  have hc:iLt i (lenA es)=false:=xR e_iLt e_lenA (by omega)
  rw [List.append_nil] at g1
  have fz:=hc
  refine Cr ?_
  refine zk ?_
  refine Aq ?_
  exact wo (.refl _ _ _ _ _) rfl (.inl ⟨rfl,by rw [g1,← gx];exact gG,by rw [g1,gx]⟩)
 | cons q r =>
  have L1:=lS g1
  have hc:iLt i (lenA es)=true:=xU e_iLt e_lenA (by omega)
  have hat:=yX e_atA hes g1 gi
  have hq:=hih q (by rw [g1];simp) x (pre++pp :: (Pat.nodesL a++post)) [A0 x,A1 x,A2 x,A3 x,A4 x,A5 x,A6 x,Lp,C0 x,C1 x] (HEnt.refl (by simp)) ⟨Pat.nodesL r++post,by rw [gx,g1,Pat.nodesL_append];simp [Pat.nodesL]⟩ gG hyall
  have hqc:=Pat.closed q
  have hi2:iAdd .i64 i 1=((d++[q]).length:Int):=by rw [List.length_append];exact yh e_iAdd gi (by omega)
  have hx2:x++q.nodes=pre++pp :: Pat.nodesL (d++[q]):=by rw [gx,Pat.nodesL_append];simp [Pat.nodesL]
  obtain ⟨qO,qA,qT,qV,qS,qN,qCo,qCa,qCv,qCf,qCk,qXk,qXn,qXt,hx⟩:=Pat.form q
  rw [hx] at hat hqc hq
  generalize hXx:x++q.nodes=X at hq hx2
  have fz:=And.intro hc hat
  refine Cr ?_
  refine on_drop (H:=[A0 x,A1 x,A2 x,A3 x,A4 x,A5 x,A6 x,Lp,C0 x,C1 x]) (X:=[_]) (F':=[(18,.agg [int qO,.isl 14 qA,int qT,int qV,int qS,int qN,int qCo,.isl 8 qCa,int qCv,int qCf,int qCk,int qXk,int qXn,str qXt]),(19,.yld 7),(14,int i),(13,int (lenA es)),(12,.isl 14 es),(1,.yld 7)]) (hd x) (by simp) ⟨.cl hqc,.refl _,.refl _,.refl _,.cl hcl,.refl _,trivial⟩ ?_
  refine on_callN (F2:=[(14,int i),(13,int (lenA es)),(12,.isl 14 es),(1,.yld 7)]) rfl rfl rfl enters_pattern_walk hq ⟨.refl _,.refl _,.cl hcl,.refl _,trivial⟩ ?_
  rintro v2 H2 (⟨rfl,hG2,rfl⟩ | ⟨rfl,hS⟩)
  · have fz:=hnt
    refine Cr ?_
    exact zm (d++[q],r,iAdd .i64 i 1,X) ⟨by simp [g1],hi2,hx2,hG2⟩ (by simp) (yz ⟨.refl _,.refl _,.refl _,.refl _,trivial⟩)
  have fz:=hnf
  refine Cr ?_
  refine zf ?_
  refine Aq ?_
  exact wo (.refl _ _ _ _ _) rfl (.inr ⟨rfl,hS⟩)
theorem C_preorder1 (A0 A1 A2 A3 A4 A5 A6:List Pat→AObj) (Lp:AObj) (C0 C1:List Pat→AObj) (G:List Pat→Prop) (S:zz→Prop) (hb:∀ d,∀ o∈[A0 d,A1 d,A2 d,A3 d,A4 d,A5 d,A6 d,Lp,C0 d,C1 d],Keeps o)
 (p:Pat) (hs:p.Sm) {cs:List AV} (hp:p.enc=.agg cs) (H0:zz) (hN:H0.length=8) (h0:HEnt EE 8 7 H0 [A0 [],A1 [],A2 [],A3 [],A4 [],A5 [],A6 [],Lp,C0 [],C1 []]) (hG:G [])
  (hy:∀ d q r,p.nodes=d++q :: r→G d→AYield EE 7 [q.enc] [A0 d,A1 d,A2 d,A3 d,A4 d,A5 d,A6 d,Lp,C0 d,C1 d] (YdR EE (G (d++[q])) [A0 (d++[q]),A1 (d++[q]),A2 (d++[q]),A3 (d++[q]),A4 (d++[q]),A5 (d++[q]),A6 (d++[q]),Lp,C0 (d++[q]),C1 (d++[q])] S)) :
  ACall EE 146 [.yld 7,.iptr cs] H0 (fun _ H1=>(G p.nodes∧H1=[A0 p.nodes,A1 p.nodes,A2 p.nodes,A3 p.nodes,A4 p.nodes,A5 p.nodes,A6 p.nodes,Lp,C0 p.nodes,C1 p.nodes])∨S H1):=by
 have hw:=C_walk A0 A1 A2 A3 A4 A5 A6 Lp C0 C1 G S hb p hs [] p.nodes H0 h0 ⟨[],by simp⟩ hG hy
 rw [List.nil_append] at hw
 have hpc:=Pat.closed p
 obtain ⟨pO,pA,pT,pV,pS,pN,pCo,pCa,pCv,pCf,pCk,pXk,pXn,pXt,hx⟩:=Pat.form p
 rw [hx] at hp hw hpc
 injection hp with hp
 subst hp
 generalize p.nodes=nl at *
 clear hy h0
 have hip:(AV.iptr [int pO,.isl 14 pA,int pT,int pV,int pS,int pN,int pCo,.isl 8 pCa,int pCv,int pCf,int pCk,int pXk,int pXn,str pXt]).closed=true:=hpc
 refine zo ?_;unhygienic intros
 refine rB T146 [] ?_
 rw [hN]
 refine goA 0 ?_
 refine on_callN (F2:=[]) rfl rfl rfl enters_pattern_walk hw trivial ?_
 rintro v2 H2 (⟨rfl,hG2,rfl⟩ | ⟨rfl,hS⟩)
 · refine goA 0 ?_
   exact t6 (.refl _ _ _ _ _) rfl (.inl ⟨hG2,rfl⟩)
 refine goA 0 ?_
 exact t6 (.refl _ _ _ _ _) rfl (.inr hS)
theorem P_preorder (p:Pat) {cs:List AV} (hp:p.enc=.agg cs):PCall EE 111 [.agg cs] (.fn 146 [.iptr cs]):=by
 have hpc:=Pat.closed p
 obtain ⟨pO,pA,pT,pV,pS,pN,pCo,pCa,pCv,pCf,pCk,pXk,pXn,pXt,hx⟩:=Pat.form p
 rw [hx] at hp hpc
 injection hp with hp
 subst hp
 have hcl:AV.closedL [int pO,.isl 14 pA,int pT,int pV,int pS,int pN,int pCo,.isl 8 pCa,int pCv,int pCf,int pCk,int pXk,int pXn,str pXt]=true:=hpc
 refine zo ?_;unhygienic intros
 refine fB T111 [.t 2] ?_
 refine goA 0 ?_
 refine zP rfl rfl ⟨[.icells [int pO,.isl 14 pA,int pT,int pV,int pS,int pN,int pCo,.isl 8 pCa,int pCv,int pCf,int pCk,int pXk,int pXn,str pXt]],⟨⟨_,rfl,(zw _ hcl).symm⟩,trivial⟩,.of rfl⟩
theorem on_preorder {n N:Nat} {Q:zL→AFr→zz→Prop} {k:List KI} {F:AFr} {f:Opd} {ps:List Nat} {a b:ACode} {o0 o1 o2 o3 o4 o5 o6:AObj} (A0 A1 A2 A3 A4 A5 A6 C0 C1:List Pat→AObj) (G:List Pat→Prop) (p:Pat) (hs:p.Sm) {cs:List AV} (hp:p.enc=.agg cs)
 (hf:f.ev EE.G F=.fn 146 [.iptr cs]) (hps:ps.length=1) (hF:FK F) (hG:G [])
 (h0:HEnt EE 8 7 [o0,o1,o2,o3,o4,o5,o6,.loop F n ps a b .ready none] [A0 [],A1 [],A2 [],A3 [],A4 [],A5 [],A6 [],.loop F n ps a b .ready none,C0 [],C1 []])
 (k0:∀ d,Keeps (A0 d)) (k1:∀ d,Keeps (A1 d)) (k2:∀ d,Keeps (A2 d)) (k3:∀ d,Keeps (A3 d)) (k4:∀ d,Keeps (A4 d)) (k5:∀ d,Keeps (A5 d)) (k6:∀ d,Keeps (A6 d)) (k8:∀ d,Keeps (C0 d)) (k9:∀ d,Keeps (C1 d))
 (hend:G p.nodes→zl EE n N Q (.out .normal) k F [A0 p.nodes,A1 p.nodes,A2 p.nodes,A3 p.nodes,A4 p.nodes,A5 p.nodes,A6 p.nodes,.dead,C0 p.nodes,C1 p.nodes])
 (hy:∀ d q r,p.nodes=d++q :: r→G d→zl EE n 10 (tM EE 7 10 F n ps a b (YdR EE (G (d++[q])) [A0 (d++[q]),A1 (d++[q]),A2 (d++[q]),A3 (d++[q]),A4 (d++[q]),A5 (d++[q]),A6 (d++[q]),.loop F n ps a b .ready none,C0 (d++[q]),C1 (d++[q])] (StopS EE n N Q k F ps a b))) (.code a) [] (vM F ps [q.enc])
  [A0 d,A1 d,A2 d,A3 d,A4 d,A5 d,A6 d,.loop F n ps a b .ready none,C0 d,C1 d]) :
 zl EE n N Q (.code (.rfun f ps a b)) k F [o0,o1,o2,o3,o4,o5,o6]:=by
 refine sZ hf enters_pattern_preorder_1 ?_
 refine ACall.mono (C_preorder1 A0 A1 A2 A3 A4 A5 A6 (.loop F n ps a b .ready none) C0 C1 G (StopS EE n N Q k F ps a b) (fun d o ho=>?_) p hs hp _ rfl h0 hG (fun d q r h hg=>yield_round (l:=7) rfl hps (hy d q r h hg))) ?_
 · simp only [List.mem_cons,List.not_mem_nil,or_false] at ho
   rcases ho with rfl | rfl | rfl | rfl | rfl | rfl | rfl | rfl | rfl | rfl
   · exact k0 d
   · exact k1 d
   · exact k2 d
   · exact k3 d
   · exact k4 d
   · exact k5 d
   · exact k6 d
   · exact .loop hF
   · exact k8 d
   exact k9 d
 rintro v H1 (⟨hg,rfl⟩ | ⟨e,h1,h2⟩)
 · exact ⟨.ready,none,rfl,by simp,hend hg⟩
 exact ⟨.done,some e,h1,by simp,h2⟩
theorem Ex0.enc_eq : Ex0.enc=.agg [int 0,.isl 8 [],int 0,int 0,int 0,int 0,int 0,str ⟨#[]⟩]:=by
 rw [Ex0,Ex.enc_mk,zu];rfl
theorem nil_ex0 : WkL 0 [.agg [int 0,.val (.slice none 0 0),int 0,int 0,int 0,int 0,int 0,str ⟨#[]⟩]] [Ex0.enc]:=by
 rw [Ex0.enc_eq]
 exact ⟨.agg' ⟨.refl _,.nilI 8,.refl _,.refl _,.refl _,.refl _,.refl _,.refl _,trivial⟩,trivial⟩
theorem P_check (p:Pat) (hs:p.Sm):PCall EE 134 [p.enc] (int p.nodeE):=by
 have hlen:p.args.length<1048576:=by obtain ⟨o,a,t,v,s,n,c⟩:=p;exact hs.len
 have hck:=vo p.cond hs.cond'
 have hsm:PCall EE 33 [p.cond.enc,.agg [int 0,.val (.slice none 0 0),int 0,int 0,int 0,int 0,int 0,str ⟨#[]⟩]] (bool (eqB p.cond Ex0)):=(wi p.cond Ex0 hs.cond').weak ⟨.refl _,nil_ex0⟩
 obtain ⟨sB,hsB⟩:∃ b,b=eqB p.cond Ex0:=⟨_,rfl⟩
 have hsB2:sB=true↔p.cond=Ex0:=by rw [hsB];exact eqB_iff
 rw [← hsB] at hsm
 have hcl:=Pat.closed p
 have hclc:=Ex.closed p.cond
 obtain ⟨R,hR⟩:∃ R,R=p.nodeE:=⟨_,rfl⟩
 rw [← hR]
 unfold Pat.nodeE at hR
 generalize p.cond.chk=ce at *
 have hrow:=@shape_row p.op
 generalize uz p.op=lo at *
 generalize tp p.op=mo at *
 generalize yg p.op=ty at *
 generalize wl p.op=cd at *
 generalize xw p.op=sc at *
 generalize xa p.op=sp at *
 obtain ⟨b1,e1,w1⟩:∃ b,(b=true↔ty=false∨0≤p.ty∧p.ty≤15)∧PCall EE 161 [bool ty,int p.ty,int 15] (bool b):=⟨_,decide_eq_true_iff,P_within _ _ _⟩
 obtain ⟨b2,e2,w2⟩:∃ b,(b=true↔ty=false∨0≤p.var∧p.var≤15)∧PCall EE 161 [bool ty,int p.var,int 15] (bool b):=⟨_,decide_eq_true_iff,P_within _ _ _⟩
 obtain ⟨b3,e3,w3⟩:∃ b,(b=true↔sc=false∨0≤p.scope∧p.scope≤63)∧PCall EE 161 [bool sc,int p.scope,int 63] (bool b):=⟨_,decide_eq_true_iff,P_within _ _ _⟩
 obtain ⟨b4,e4,w4⟩:∃ b,(b=true↔sp=false∨0≤p.span∧p.span≤1099511627776)∧PCall EE 161 [bool sp,int p.span,int 1099511627776] (bool b):=⟨_,decide_eq_true_iff,P_within _ _ _⟩
 obtain ⟨u1,f1,v1⟩:∃ b,(b=true↔ty=true∨p.ty=0)∧PCall EE 162 [bool ty,int p.ty] (bool b):=⟨_,decide_eq_true_iff,P_unused _ _⟩
 obtain ⟨u2,f2,v2⟩:∃ b,(b=true↔ty=true∨p.var=0)∧PCall EE 162 [bool ty,int p.var] (bool b):=⟨_,decide_eq_true_iff,P_unused _ _⟩
 obtain ⟨u3,f3,v3⟩:∃ b,(b=true↔sc=true∨p.scope=0)∧PCall EE 162 [bool sc,int p.scope] (bool b):=⟨_,decide_eq_true_iff,P_unused _ _⟩
 obtain ⟨u4,f4,v4⟩:∃ b,(b=true↔sp=true∨p.span=0)∧PCall EE 162 [bool sp,int p.span] (bool b):=⟨_,decide_eq_true_iff,P_unused _ _⟩
 have hR1:(p.op<0∨11≤p.op)→R=1:=fun h=>by rw [hR,if_pos h]
 have hR15:¬(p.op<0∨11≤p.op)→((p.args.length:Int)<lo∨mo<p.args.length)→R=15:=fun h h2=>by rw [hR,if_neg h,if_pos h2]
 have hR2:¬(p.op<0∨11≤p.op)→¬((p.args.length:Int)<lo∨mo<p.args.length)→(b1=false∨b2=false∨b3=false∨b4=false)→R=2:=fun h h2 h3=>by
  rw [hR,if_neg h,if_neg h2,if_pos]
  clear hR hR1 hR15 hck hsm hrow w1 w2 w3 w4 v1 v2 v3 v4 f1 f2 f3 f4
  grind
 have hB:b1=true→b2=true→b3=true→b4=true→¬((ty=true∧(p.ty<0∨15<p.ty∨p.var<0∨15<p.var))∨(sc=true∧(p.scope<0∨63<p.scope))∨(sp=true∧(p.span<0∨1099511627776<p.span))):=fun q1 q2 q3 q4=>by
  clear hR hR1 hR15 hR2 hck hsm hrow w1 w2 w3 w4 v1 v2 v3 v4 f1 f2 f3 f4
  grind
 have hRc:¬(p.op<0∨11≤p.op)→¬((p.args.length:Int)<lo∨mo<p.args.length)→b1=true→b2=true→b3=true→b4=true→cd=true→ce≠0→R=ce:=fun h h2 q1 q2 q3 q4 h5 h6=>by
  rw [hR,if_neg h,if_neg h2,if_neg (hB q1 q2 q3 q4),if_pos ⟨h5,h6⟩]
 have hU:(cd=false∧sB=false∨u1=false∨u2=false∨u3=false∨u4=false)↔((cd=false∧p.cond≠Ex0)∨(ty=false∧(p.ty≠0∨p.var≠0))∨(sc=false∧p.scope≠0)∨(sp=false∧p.span≠0)):=by
  clear hR hR1 hR15 hR2 hRc hB hck hsm hrow w1 w2 w3 w4 v1 v2 v3 v4 e1 e2 e3 e4
  rw [Bool.eq_false_iff (b:=u1),Bool.eq_false_iff (b:=u2),Bool.eq_false_iff (b:=u3),Bool.eq_false_iff (b:=u4),Bool.eq_false_iff (b:=sB),ne_eq,ne_eq,ne_eq,ne_eq,ne_eq,f1,f2,f3,f4,hsB2]
  cases cd<;>cases ty<;>cases sc<;>cases sp<;>simp [or_assoc]
 have hR3:¬(p.op<0∨11≤p.op)→¬((p.args.length:Int)<lo∨mo<p.args.length)→b1=true→b2=true→b3=true→b4=true→(cd=true→ce=0)→(cd=false∧sB=false∨u1=false∨u2=false∨u3=false∨u4=false)→R=3:=fun h h2 q1 q2 q3 q4 h5 h6=>by
  rw [hR,if_neg h,if_neg h2,if_neg (hB q1 q2 q3 q4),if_neg (fun hh=>hh.2 (h5 hh.1)),if_pos (hU.1 h6)]
 have hR0:¬(p.op<0∨11≤p.op)→¬((p.args.length:Int)<lo∨mo<p.args.length)→b1=true→b2=true→b3=true→b4=true→(cd=true→ce=0)→¬(cd=false∧sB=false∨u1=false∨u2=false∨u3=false∨u4=false)→R=0:=fun h h2 q1 q2 q3 q4 h5 h6=>by
  rw [hR,if_neg h,if_neg h2,if_neg (hB q1 q2 q3 q4),if_neg (fun hh=>hh.2 (h5 hh.1)),if_neg (fun hh=>h6 (hU.2 hh))]
 clear hsB hs hR hB hU hsB2 e1 e2 e3 e4 f1 f2 f3 f4
 obtain ⟨pO,pA,pT,pV,pS,pN,pCo,pCa,pCv,pCf,pCk,pXk,pXn,pXt,hx,hxc,hpO,hpA,hpT,hpV,hpS,hpN⟩:=Pat.form2 p
 rw [hx] at hcl ⊢
 rw [hxc] at hck hsm hclc
 simp only [← hpO,← hpT,← hpV,← hpS,← hpN] at *
 refine zo ?_;unhygienic intros
 have hel:pA.length=p.args.length:=by rw [hpA,zp]
 generalize p.args.length=al at *
 clear hpA hx hxc hpO hpT hpV hpS hpN
 refine fB T134 [.t 2] ?_
 by_cases h0:pO<0∨11≤pO
 · have hR:=hR1 h0
   have hk:bOr (iLt pO 0) (iLe 11 pO)=true:=by simp only [ee];simpa using h0
   have fz:=hk
   refine Cq ?_
   refine Aq ?_
   exact fI (h:=hR.symm)
 have h1:0≤pO:=by omega
 have h2:pO<11:=by omega
 have k1:iLt pO 0=false:=by simp only [ee];simp;omega
 have k2:iLe 11 pO=false:=by simp only [ee];simp;omega
 have hrow:=hrow h1 h2
 have hR15:=hR15 h0
 have hR2:=hR2 h0
 have hRc:=hRc h0
 have hR3:=hR3 h0
 have hR0:=hR0 h0
 have hrw:rowA (Classical.choice vY).g pO 6=[int lo,int mo,bool ty,bool cd,bool sc,bool sp]:=by rw [e_rowA];exact hrow
 clear hrow hR1
 cases cd with
 | true =>
  have fz:=And.intro k1 (And.intro k2 hrw)
  refine Cq ?_
  refine oC (fun c1=>?_) fun c1=>?_
  ·
   simp [ee] at c1
  simp [ee] at c1
  refine Cq ?_
  refine oC (fun c2=>?_) fun c2=>?_
  ·
   simp [ee] at c2
   refine Aq ?_
   exact fI (h:=(hR15 (by omega)).symm)
  simp [ee] at c2
  refine Aq ?_
  refine oPA w1 ?_
  refine Cq ?_
  refine zG rfl rfl (fun c3=>?_) (fun c3=>?_)
  ·
   simp [ee] at c3
   refine Aq ?_
   refine zZ rfl rfl ?_
   refine Aq ?_
   refine zZ rfl rfl ?_
   refine Aq ?_
   refine zZ rfl rfl ?_
   refine Aq ?_
   exact fI (h:=(hR2 (by omega) (by simp [*])).symm)
  simp [ee] at c3
  refine Aq ?_
  refine oPG w2 ?_
  refine Cq ?_
  refine zG rfl rfl (fun c4=>?_) (fun c4=>?_)
  ·
   simp [ee] at c4
   refine Aq ?_
   refine zZ rfl rfl ?_
   refine Aq ?_
   refine zZ rfl rfl ?_
   refine Aq ?_
   exact fI (h:=(hR2 (by omega) (by simp [*])).symm)
  simp [ee] at c4
  refine Aq ?_
  refine oPG w3 ?_
  refine Cq ?_
  refine zG rfl rfl (fun c5=>?_) (fun c5=>?_)
  ·
   simp [ee] at c5
   refine Aq ?_
   refine zZ rfl rfl ?_
   refine Aq ?_
   exact fI (h:=(hR2 (by omega) (by simp [*])).symm)
  simp [ee] at c5
  refine Aq ?_
  refine oPG w4 ?_
  refine Cq ?_
  refine oC (fun c6=>?_) fun c6=>?_
  ·
   simp [ee] at c6
   refine Aq ?_
   exact fI (h:=(hR2 (by omega) (by simp [*])).symm)
  simp [ee] at c6
  refine Aq ?_
  refine oPA hck ?_
  refine Cq ?_
  refine oC (fun c7=>?_) fun c7=>?_
  ·
   simp [ee] at c7
   refine Aq ?_
   exact fI (h:=(hRc (by omega) (by assumption) (by assumption) (by assumption) (by assumption) rfl (by assumption)).symm)
  simp [ee] at c7
  refine Cq ?_
  refine zG rfl rfl (fun c8=>?_) (fun c8=>?_)
  ·
   simp [ee] at c8
  simp [ee] at c8
  refine Aq ?_
  refine zZ rfl rfl ?_
  refine Aq ?_
  refine oPG v1 ?_
  refine Cq ?_
  refine zG rfl rfl (fun c9=>?_) (fun c9=>?_)
  ·
   simp [ee] at c9
   refine Aq ?_
   refine zZ rfl rfl ?_
   refine Aq ?_
   refine zZ rfl rfl ?_
   refine Aq ?_
   refine zZ rfl rfl ?_
   refine Aq ?_
   exact fI (h:=(hR3 (by omega) (by assumption) (by assumption) (by assumption) (by assumption) (fun _=>by assumption) (by simp [*])).symm)
  simp [ee] at c9
  refine Aq ?_
  refine oPG v2 ?_
  refine Cq ?_
  refine zG rfl rfl (fun c10=>?_) (fun c10=>?_)
  ·
   simp [ee] at c10
   refine Aq ?_
   refine zZ rfl rfl ?_
   refine Aq ?_
   refine zZ rfl rfl ?_
   refine Aq ?_
   exact fI (h:=(hR3 (by omega) (by assumption) (by assumption) (by assumption) (by assumption) (fun _=>by assumption) (by simp [*])).symm)
  simp [ee] at c10
  refine Aq ?_
  refine oPG v3 ?_
  refine Cq ?_
  refine zG rfl rfl (fun c11=>?_) (fun c11=>?_)
  ·
   simp [ee] at c11
   refine Aq ?_
   refine zZ rfl rfl ?_
   refine Aq ?_
   exact fI (h:=(hR3 (by omega) (by assumption) (by assumption) (by assumption) (by assumption) (fun _=>by assumption) (by simp [*])).symm)
  simp [ee] at c11
  refine Aq ?_
  refine oPG v4 ?_
  refine Cq ?_
  refine oC (fun c12=>?_) fun c12=>?_
  ·
   simp [ee] at c12
   refine Aq ?_
   exact fI (h:=(hR3 (by omega) (by assumption) (by assumption) (by assumption) (by assumption) (fun _=>by assumption) (by simp [*])).symm)
  simp [ee] at c12
  refine Aq ?_
  exact fI (h:=(hR0 (by omega) (by assumption) (by assumption) (by assumption) (by assumption) (fun _=>by assumption) (by simp [*])).symm)
 | false =>
  have fz:=And.intro k1 (And.intro k2 hrw)
  refine Cq ?_
  refine oC (fun c1=>?_) fun c1=>?_
  ·
   simp [ee] at c1
  simp [ee] at c1
  refine Cq ?_
  refine oC (fun c2=>?_) fun c2=>?_
  ·
   simp [ee] at c2
   refine Aq ?_
   exact fI (h:=(hR15 (by omega)).symm)
  simp [ee] at c2
  refine Aq ?_
  refine oPA w1 ?_
  refine Cq ?_
  refine zG rfl rfl (fun c3=>?_) (fun c3=>?_)
  ·
   simp [ee] at c3
   refine Aq ?_
   refine zZ rfl rfl ?_
   refine Aq ?_
   refine zZ rfl rfl ?_
   refine Aq ?_
   refine zZ rfl rfl ?_
   refine Aq ?_
   exact fI (h:=(hR2 (by omega) (by simp [*])).symm)
  simp [ee] at c3
  refine Aq ?_
  refine oPG w2 ?_
  refine Cq ?_
  refine zG rfl rfl (fun c4=>?_) (fun c4=>?_)
  ·
   simp [ee] at c4
   refine Aq ?_
   refine zZ rfl rfl ?_
   refine Aq ?_
   refine zZ rfl rfl ?_
   refine Aq ?_
   exact fI (h:=(hR2 (by omega) (by simp [*])).symm)
  simp [ee] at c4
  refine Aq ?_
  refine oPG w3 ?_
  refine Cq ?_
  refine zG rfl rfl (fun c5=>?_) (fun c5=>?_)
  ·
   simp [ee] at c5
   refine Aq ?_
   refine zZ rfl rfl ?_
   refine Aq ?_
   exact fI (h:=(hR2 (by omega) (by simp [*])).symm)
  simp [ee] at c5
  refine Aq ?_
  refine oPG w4 ?_
  refine Cq ?_
  refine oC (fun c6=>?_) fun c6=>?_
  ·
   simp [ee] at c6
   refine Aq ?_
   exact fI (h:=(hR2 (by omega) (by simp [*])).symm)
  simp [ee] at c6
  refine Cq ?_
  refine Cr ?_
  refine zG rfl rfl (fun c7=>?_) (fun c7=>?_)
  ·
   simp [ee] at c7
   refine Aq ?_
   refine oPG hsm ?_
   refine Cq ?_
   refine zG rfl rfl (fun c8=>?_) (fun c8=>?_)
   ·
    simp [ee] at c8
    refine Aq ?_
    refine zZ rfl rfl ?_
    refine Aq ?_
    refine zZ rfl rfl ?_
    refine Aq ?_
    refine zZ rfl rfl ?_
    refine Aq ?_
    refine zZ rfl rfl ?_
    refine Aq ?_
    exact fI (h:=(hR3 (by omega) (by assumption) (by assumption) (by assumption) (by assumption) (fun h=>by cases h) (by simp [*])).symm)
   simp [ee] at c8
   refine Aq ?_
   refine oPG v1 ?_
   refine Cq ?_
   refine zG rfl rfl (fun c9=>?_) (fun c9=>?_)
   ·
    simp [ee] at c9
    refine Aq ?_
    refine zZ rfl rfl ?_
    refine Aq ?_
    refine zZ rfl rfl ?_
    refine Aq ?_
    refine zZ rfl rfl ?_
    refine Aq ?_
    exact fI (h:=(hR3 (by omega) (by assumption) (by assumption) (by assumption) (by assumption) (fun h=>by cases h) (by simp [*])).symm)
   simp [ee] at c9
   refine Aq ?_
   refine oPG v2 ?_
   refine Cq ?_
   refine zG rfl rfl (fun c10=>?_) (fun c10=>?_)
   ·
    simp [ee] at c10
    refine Aq ?_
    refine zZ rfl rfl ?_
    refine Aq ?_
    refine zZ rfl rfl ?_
    refine Aq ?_
    exact fI (h:=(hR3 (by omega) (by assumption) (by assumption) (by assumption) (by assumption) (fun h=>by cases h) (by simp [*])).symm)
   simp [ee] at c10
   refine Aq ?_
   refine oPG v3 ?_
   refine Cq ?_
   refine zG rfl rfl (fun c11=>?_) (fun c11=>?_)
   ·
    simp [ee] at c11
    refine Aq ?_
    refine zZ rfl rfl ?_
    refine Aq ?_
    exact fI (h:=(hR3 (by omega) (by assumption) (by assumption) (by assumption) (by assumption) (fun h=>by cases h) (by simp [*])).symm)
   simp [ee] at c11
   refine Aq ?_
   refine oPG v4 ?_
   refine Cq ?_
   refine oC (fun c12=>?_) fun c12=>?_
   ·
    simp [ee] at c12
    refine Aq ?_
    exact fI (h:=(hR3 (by omega) (by assumption) (by assumption) (by assumption) (by assumption) (fun h=>by cases h) (by simp [*])).symm)
   simp [ee] at c12
   refine Aq ?_
   exact fI (h:=(hR0 (by omega) (by assumption) (by assumption) (by assumption) (by assumption) (fun h=>by cases h) (by simp [*])).symm)
  simp [ee] at c7
def Pat.chkR (p:Pat):Int:=if 64<p.cnt then 5 else if 12<p.dep then 12 else zU Pat.nodeE p.nodes
theorem vW {α:Type} {F:α→Int}:∀ {l:List α},(∀ q∈l,F q=0)→zU F l=0
 | [],_=>rfl
 | q :: r,h=>by rw [zU,if_neg (by simp [h q]),vW fun q hq=>h q (by simp [hq])]
theorem firstE_at {α:Type} {F:α→Int} {d:List α} {q:α} {r:List α} (h:∀ q∈d,F q=0) (hq:F q≠0):zU F (d++q :: r)=F q:=by
 rw [firstE_append,if_neg (by simp [vW h]),zU,if_pos hq]
theorem vR (p:Pat) (hs:p.Sm):PCall EE 98 [p.enc] (int p.chkR):=by
 have h1:=P_pattern_Size p hs
 have hsn:=hs.node
 have hcl:=Pat.closed p
 obtain ⟨R,hR⟩:∃ R,R=p.chkR:=⟨_,rfl⟩
 rw [← hR]
 unfold Pat.chkR at hR
 obtain ⟨pcs,hpe⟩:∃ cs,p.enc=.agg cs:=by obtain ⟨o,es,t,v,s,n,co,ec,cv,cf,ck,xk,xn,xt,h⟩:=Pat.form p;exact ⟨_,h⟩
 have hpre:=P_preorder p hpe
 obtain ⟨pO,pA,pT,pV,pS,pN,pCo,pCa,pCv,pCf,pCk,pXk,pXn,pXt,hx⟩:=Pat.form p
 rw [hx] at h1 hcl hpe ⊢
 injection hpe with hpe
 subst hpe
 have hip:(AV.fn 146 [.iptr [int pO,.isl 14 pA,int pT,int pV,int pS,int pN,int pCo,.isl 8 pCa,int pCv,int pCf,int pCk,int pXk,int pXn,str pXt]]).closed=true:=by simp only [closed_fn,AV.closedL,closed_iptr,Bool.and_true];exact hcl
 generalize hn:(p.cnt:Int)=cn at *
 generalize hd:(p.dep:Int)=dn at *
 refine zo ?_;unhygienic intros
 refine fB T98 [.cell 2 1 false] ?_
 by_cases g1:64<p.cnt
 · have k1:iLt 64 cn=true:=by simp only [ee];simp;omega
   have hR:R=5:=by rw [hR,if_pos g1]
   refine Aq ?_
   refine oPA h1 ?_
   have fz:=k1
   refine Cq ?_
   refine Aq ?_
   exact fI (h:=hR.symm)
 have k1:iLt 64 cn=false:=by simp only [ee];simp;omega
 by_cases g2:12<p.dep
 · have k2:iLt 12 dn=true:=by simp only [ee];simp;omega
   have hR:R=12:=by rw [hR,if_neg g1,if_pos g2]
   refine Aq ?_
   refine oPA h1 ?_
   have fz:=And.intro k1 k2
   refine Cq ?_
   refine Cr ?_
   refine Aq ?_
   exact fI (h:=hR.symm)
 have k2:iLt 12 dn=false:=by simp only [ee];simp;omega
 have hR:R=zU Pat.nodeE p.nodes:=by rw [hR,if_neg g1,if_neg g2]
 refine Aq ?_
 refine oPA h1 ?_
 have fz:=And.intro k1 k2
 refine Cq ?_
 refine Cr ?_
 refine Aq ?_
 refine oPA hpre ?_
 refine Aq ?_
 refine sG (F':=[(17,.fn 146 [.iptr [int pO,.isl 14 pA,int pT,int pV,int pS,int pN,int pCo,.isl 8 pCa,int pCv,int pCf,int pCk,int pXk,int pXn,str pXt]]),(2,.ptr 0 0)]) (H':=[.cells [int 0],.dead,.dead,.dead,.dead,.dead,.dead]) ?_ ?_
 · exact (eS [.gone,.to 0] [some 1,none,none,none,none,none,none])
 refine on_preorder (fun _=>.cells [int 0]) (fun _=>.dead) (fun _=>.dead) (fun _=>.dead) (fun _=>.dead) (fun _=>.dead) (fun _=>.dead) (fun _=>.dead) (fun _=>.dead) (fun d=>∀ q∈d,q.nodeE=0) p hs hx rfl rfl ⟨.cl hip,.ptr (by decide),trivial⟩ (fun q hq=>by cases hq) ?_ (fun _=>.cells ⟨.cl rfl,trivial⟩) (fun _=>.dead) (fun _=>.dead) (fun _=>.dead) (fun _=>.dead) (fun _=>.dead) (fun _=>.dead) (fun _=>.dead) (fun _=>.dead) (fun hall=>?_) (fun d q r hd hok=>?_)
 · exact (xx [.to 0,.gone,.gone,.gone,.gone,.gone,.gone,.to 7] [some 0,some 1,some 2,some 3,some 4,some 5,some 6,some 7,none,none] rfl ⟨rfl,rfl,rfl,rfl,rfl,rfl,rfl,rfl,trivial⟩ (by simp) (by simp) ⟨⟨by simp,rfl⟩,trivial,trivial,trivial,trivial,trivial,trivial,⟨by simp,rfl⟩,trivial⟩ ⟨zx (b:=0) rfl rfl rfl ⟨.refl _,trivial⟩,.dead,.dead,.dead,.dead,.dead,.dead,.some 7 _ _ rfl rfl rfl (.loop _ _ _ _ _ _ _ _ ⟨.cl hip,.refl _,trivial⟩),.dead,.dead,trivial⟩)
 · have hR:R=0:=by rw [hR];exact vW hall
   refine Aq ?_
   exact fI (h:=hR.symm)
 have hq:=P_check q (hsn q (by rw [hd];simp))
 have hqc:=Pat.closed q
 have hfe:=fun h=>firstE_at (F:=Pat.nodeE) (r:=r) hok (q:=q) h
 rw [← hd] at hfe
 have hok2:q.nodeE=0→∀ q'∈d++[q],q'.nodeE=0:=fun h q' hq'=>by
  rcases List.mem_append.1 hq' with h' | h'
  · exact hok q' h'
  simp at h';rw [h'];exact h
 obtain ⟨qO,qA,qT,qV,qS,qN,qCo,qCa,qCv,qCf,qCk,qXk,qXn,qXt,hx2⟩:=Pat.form q
 rw [hx2] at hq hqc ⊢
 generalize q.nodeE=qe at *
 by_cases hqe:qe=0
 · have k3:iNe qe 0=false:=by simp only [ee];simpa using hqe
   refine Aq ?_
   refine yZ rfl ?_
   refine Aq ?_
   refine oPA hq ?_
   have fz:=k3
   refine Cq ?_
   refine Aq ?_
   exact uU rfl (hok2 hqe) (xx [.to 0,.gone,.gone,.gone,.gone,.gone,.gone,.to 7,.gone,.gone,.gone] [some 0,some 1,some 2,some 3,some 4,some 5,some 6,some 7,none,none] rfl ⟨rfl,rfl,rfl,rfl,rfl,rfl,rfl,rfl,trivial⟩ (by simp) (by simp) ⟨⟨by simp,rfl⟩,trivial,trivial,trivial,trivial,trivial,trivial,⟨by simp,rfl⟩,trivial,trivial,trivial,trivial⟩ ⟨zx (b:=0) rfl rfl rfl ⟨.refl _,trivial⟩,.dead,.dead,.dead,.dead,.dead,.dead,.some 7 _ _ rfl rfl rfl (.loop _ _ _ _ _ _ _ _ ⟨.cl hip,.refl _,trivial⟩),.dead,.dead,trivial⟩)
 have k3:iNe qe 0=true:=by simp only [ee];simpa using hqe
 have hR:R=qe:=by rw [hR];exact hfe hqe
 refine Aq ?_
 refine yZ rfl ?_
 refine Aq ?_
 refine oPA hq ?_
 have fz:=k3
 refine Cq ?_
 refine Aq ?_
 refine rnd_stop (by simp) rfl ?_
 refine Aq ?_
 exact fI (h:=hR.symm)
theorem Pat.some_cells (p:Pat):∃ cs,p.enc=.agg cs:=by obtain ⟨o,es,t,v,s,n,co,ec,cv,cf,ck,xk,xn,xt,h⟩:=Pat.form p;exact ⟨_,h⟩
def Pat.wholeE (p:Pat):Int:=if p.chkR≠0 then p.chkR else zU (fun q=>if 8≤q.op then 1 else 0) p.nodes
theorem P_whole (p:Pat) (hs:p.Sm):PCall EE 65 [p.enc] (int p.wholeE):=by
 have h1:=vR p hs
 have hcl:=Pat.closed p
 obtain ⟨R,hR⟩:∃ R,R=p.wholeE:=⟨_,rfl⟩
 rw [← hR]
 unfold Pat.wholeE at hR
 obtain ⟨pcs,hpe⟩:=Pat.some_cells p
 have hpre:=P_preorder p hpe
 obtain ⟨pO,pA,pT,pV,pS,pN,pCo,pCa,pCv,pCf,pCk,pXk,pXn,pXt,hx⟩:=Pat.form p
 rw [hx] at h1 hcl hpe ⊢
 injection hpe with hpe
 subst hpe
 have hip:(AV.fn 146 [.iptr [int pO,.isl 14 pA,int pT,int pV,int pS,int pN,int pCo,.isl 8 pCa,int pCv,int pCf,int pCk,int pXk,int pXn,str pXt]]).closed=true:=by simp only [closed_fn,AV.closedL,closed_iptr,Bool.and_true];exact hcl
 generalize p.chkR=rn at *
 refine zo ?_;unhygienic intros
 refine fB T65 [.cell 2 1 false] ?_
 by_cases g1:rn=0
 rotate_left
 · have k1:iNe rn 0=true:=by simp only [ee];simpa using g1
   rw [if_pos g1] at hR
   refine Aq ?_
   refine oPA h1 ?_
   have fz:=k1
   refine Cq ?_
   refine Aq ?_
   exact fI (h:=hR.symm)
 have k1:iNe rn 0=false:=by simp only [ee];simpa using g1
 rw [if_neg (by simpa using g1)] at hR
 refine Aq ?_
 refine oPA h1 ?_
 have fz:=k1
 refine Cq ?_
 refine Aq ?_
 refine oPA hpre ?_
 refine Aq ?_
 refine sG (F':=[(11,.fn 146 [.iptr [int pO,.isl 14 pA,int pT,int pV,int pS,int pN,int pCo,.isl 8 pCa,int pCv,int pCf,int pCk,int pXk,int pXn,str pXt]]),(2,.ptr 0 0)]) (H':=[.cells [int 0],.dead,.dead,.dead,.dead,.dead,.dead]) ?_ ?_
 · exact (eS [.gone,.to 0] [some 1,none,none,none,none,none,none])
 refine on_preorder (fun _=>.cells [int 0]) (fun _=>.dead) (fun _=>.dead) (fun _=>.dead) (fun _=>.dead) (fun _=>.dead) (fun _=>.dead) (fun _=>.dead) (fun _=>.dead) (fun d=>∀ q∈d,(if 8≤q.op then 1 else 0:Int)=0) p hs hx rfl rfl ⟨.cl hip,.ptr (by decide),trivial⟩ (fun q hq=>by cases hq) ?_ (fun _=>.cells ⟨.cl rfl,trivial⟩) (fun _=>.dead) (fun _=>.dead) (fun _=>.dead) (fun _=>.dead) (fun _=>.dead) (fun _=>.dead) (fun _=>.dead) (fun _=>.dead) (fun hall=>?_) (fun d q r hd hok=>?_)
 · exact (xx [.to 0,.gone,.gone,.gone,.gone,.gone,.gone,.to 7] [some 0,some 1,some 2,some 3,some 4,some 5,some 6,some 7,none,none] rfl ⟨rfl,rfl,rfl,rfl,rfl,rfl,rfl,rfl,trivial⟩ (by simp) (by simp) ⟨⟨by simp,rfl⟩,trivial,trivial,trivial,trivial,trivial,trivial,⟨by simp,rfl⟩,trivial⟩ ⟨zx (b:=0) rfl rfl rfl ⟨.refl _,trivial⟩,.dead,.dead,.dead,.dead,.dead,.dead,.some 7 _ _ rfl rfl rfl (.loop _ _ _ _ _ _ _ _ ⟨.cl hip,.refl _,trivial⟩),.dead,.dead,trivial⟩)
 · have hR:R=0:=by rw [hR];exact vW hall
   refine Aq ?_
   exact fI (h:=hR.symm)
 have hqc:=Pat.closed q
 have hfe:=fun h=>firstE_at (F:=fun q:Pat=>(if 8≤q.op then 1 else 0:Int)) (r:=r) hok (q:=q) h
 rw [← hd] at hfe
 have hok2:(if 8≤q.op then 1 else 0:Int)=0→∀ q'∈d++[q],(if 8≤q'.op then 1 else 0:Int)=0:=fun h q' hq'=>by
  rcases List.mem_append.1 hq' with h' | h'
  · exact hok q' h'
  simp at h';rw [h'];exact h
 obtain ⟨qO,qA,qT,qV,qS,qN,qCo,qCa,qCv,qCf,qCk,qXk,qXn,qXt,hx2,hx2c,hqO,hqA,hqT,hqV,hqS,hqN⟩:=Pat.form2 q
 rw [hx2] at hqc ⊢
 rw [← hqO] at hfe hok2
 by_cases hqe:8≤qO
 · have k3:iLe 8 qO=true:=by simp only [ee];simpa using hqe
   have hR:R=1:=by rw [hR,hfe (by simp [hqe]),if_pos hqe]
   refine Aq ?_
   refine yZ rfl ?_
   have fz:=k3
   refine Cq ?_
   refine Aq ?_
   refine rnd_stop (by simp) rfl ?_
   refine Aq ?_
   exact fI (h:=hR.symm)
 have k3:iLe 8 qO=false:=by simp only [ee];simp;omega
 refine Aq ?_
 refine yZ rfl ?_
 have fz:=k3
 refine Cq ?_
 refine Aq ?_
 exact uU rfl (hok2 (if_neg hqe)) (xx [.to 0,.gone,.gone,.gone,.gone,.gone,.gone,.to 7,.gone,.gone,.gone] [some 0,some 1,some 2,some 3,some 4,some 5,some 6,some 7,none,none] rfl ⟨rfl,rfl,rfl,rfl,rfl,rfl,rfl,rfl,trivial⟩ (by simp) (by simp) ⟨⟨by simp,rfl⟩,trivial,trivial,trivial,trivial,trivial,trivial,⟨by simp,rfl⟩,trivial,trivial,trivial,trivial⟩ ⟨zx (b:=0) rfl rfl rfl ⟨.refl _,trivial⟩,.dead,.dead,.dead,.dead,.dead,.dead,.some 7 _ _ rfl rfl rfl (.loop _ _ _ _ _ _ _ _ ⟨.cl hip,.refl _,trivial⟩),.dead,.dead,trivial⟩)
def wu (s:Int × Int × Bool) (q:Pat):Int × Int × Bool :=
 ((if yg q.op then s.1+1 else s.1),(if xw q.op then s.2.1+1 else s.2.1),(s.2.2 && (!yg q.op || q.var == s.1)) && (!xw q.op || q.scope == s.2.1))
def yu (l:List Pat):Int × Int × Bool:=l.foldl wu (0,0,true)
theorem vc (d:List Pat) (q:Pat):yu (d++[q])=wu (yu d) q:=by simp [yu]
theorem cfold_bd (d:List Pat):0≤(yu d).1∧(yu d).1≤d.length∧0≤(yu d).2.1∧(yu d).2.1≤d.length:=by
 have:∀ (l:List Pat) (s:Int × Int × Bool),s.1≤(l.foldl wu s).1∧(l.foldl wu s).1≤s.1+l.length∧s.2.1≤(l.foldl wu s).2.1∧(l.foldl wu s).2.1≤s.2.1+l.length:=by
  intro l
  induction l with
  | nil=>intro s;simp
  | cons q r ih =>
   intro s
   have:=ih (wu s q)
   simp only [List.foldl_cons,List.length_cons]
   simp only [wu] at this ⊢
   split at this<;>split at this<;>simp_all<;>omega
 have:=this d (0,0,true)
 simpa [yu] using this
theorem P_count (p:Pat) (hs:p.Sm) (hop:∀ q∈p.nodes,0≤q.op∧q.op<11):PCall EE 66 [p.enc] (.tup [int (yu p.nodes).1,int (yu p.nodes).2.1,bool (yu p.nodes).2.2]):=by
 have hcl:=Pat.closed p
 have hcnt:=Pat.nodes_len p
 have hs1:=hs.1
 obtain ⟨pcs,hpe⟩:=Pat.some_cells p
 have hpre:=P_preorder p hpe
 obtain ⟨pO,pA,pT,pV,pS,pN,pCo,pCa,pCv,pCf,pCk,pXk,pXn,pXt,hx⟩:=Pat.form p
 rw [hx] at hcl hpe ⊢
 injection hpe with hpe
 subst hpe
 have hip:(AV.fn 146 [.iptr [int pO,.isl 14 pA,int pT,int pV,int pS,int pN,int pCo,.isl 8 pCa,int pCv,int pCf,int pCk,int pXk,int pXn,str pXt]]).closed=true:=by simp only [closed_fn,AV.closedL,closed_iptr,Bool.and_true];exact hcl
 refine zo ?_;unhygienic intros
 refine fB T66 [.t 2,.t 3,.t 4] ?_
 refine Aq ?_
 refine oPA hpre ?_
 refine Aq ?_
 refine sG (F':=[(11,.fn 146 [.iptr [int pO,.isl 14 pA,int pT,int pV,int pS,int pN,int pCo,.isl 8 pCa,int pCv,int pCf,int pCk,int pXk,int pXn,str pXt]]),(5,.ptr 0 0),(6,.ptr 1 0),(7,.ptr 2 0)]) (H':=[.cells [int 0],.cells [int 0],.cells [bool true],.dead,.dead,.dead,.dead]) ?_ ?_
 · exact (eS [.gone,.to 0,.to 1,.to 2] [some 1,some 2,some 3,none,none,none,none])
 refine on_preorder (fun d=>.cells [int (yu d).1]) (fun d=>.cells [int (yu d).2.1]) (fun d=>.cells [bool (yu d).2.2]) (fun _=>.dead) (fun _=>.dead) (fun _=>.dead) (fun _=>.dead) (fun _=>.dead) (fun _=>.dead) (fun _=>True) p hs hx rfl rfl ⟨.cl hip,.ptr (by decide),.ptr (by decide),.ptr (by decide),trivial⟩ trivial ?_ (fun _=>.cells ⟨.cl rfl,trivial⟩) (fun _=>.cells ⟨.cl rfl,trivial⟩) (fun _=>.cells ⟨.cl rfl,trivial⟩) (fun _=>.dead) (fun _=>.dead) (fun _=>.dead) (fun _=>.dead) (fun _=>.dead) (fun _=>.dead) (fun _=>?_) (fun d q r hd _=>?_)
 · exact (xx [.to 0,.to 1,.to 2,.gone,.gone,.gone,.gone,.to 7] [some 0,some 1,some 2,some 3,some 4,some 5,some 6,some 7,none,none] rfl ⟨rfl,rfl,rfl,rfl,rfl,rfl,rfl,rfl,trivial⟩ (by simp) (by simp) ⟨⟨by simp,rfl⟩,⟨by simp,rfl⟩,⟨by simp,rfl⟩,trivial,trivial,trivial,trivial,⟨by simp,rfl⟩,trivial⟩ ⟨zx (b:=0) rfl rfl rfl ⟨.refl _,trivial⟩,zx (b:=1) rfl rfl rfl ⟨.refl _,trivial⟩,zx (b:=2) rfl rfl rfl ⟨.refl _,trivial⟩,.dead,.dead,.dead,.dead,.some 7 _ _ rfl rfl rfl (.loop _ _ _ _ _ _ _ _ ⟨.cl hip,.refl _,.refl _,.refl _,trivial⟩),.dead,.dead,trivial⟩)
 · generalize (yu p.nodes).1=c1 at *
   generalize (yu p.nodes).2.1=c2 at *
   generalize (yu p.nodes).2.2=c3 at *
   refine Aq ?_
   exact fE [.gone,.gone,.gone,.gone,.gone,.gone,.gone,.gone,.gone,.gone]
 have hqc:=Pat.closed q
 have hqo:=hop q (by rw [hd];simp)
 have hrow:=shape_row hqo.1 hqo.2
 have hb:=cfold_bd d
 have hdl:d.length≤1048576:=by have:=congrArg List.length hd;simp at this;omega
 have e1:(yu (d++[q])).1=_:=congrArg (fun s=>s.1) (vc d q)
 have e2:(yu (d++[q])).2.1=_:=congrArg (fun s=>s.2.1) (vc d q)
 have e3:(yu (d++[q])).2.2=_:=congrArg (fun s=>s.2.2) (vc d q)
 dsimp only [wu] at e1 e2 e3
 have hrw:rowA (Classical.choice vY).g q.op 6=[int (uz q.op),int (tp q.op),bool (yg q.op),bool (wl q.op),bool (xw q.op),bool (xa q.op)]:=by rw [e_rowA];exact hrow
 generalize uz q.op=lo at *
 generalize tp q.op=mo at *
 generalize hty:yg q.op=ty at *
 generalize wl q.op=cd at *
 generalize hsc:xw q.op=sc at *
 generalize xa q.op=sp at *
 clear hrow
 obtain ⟨qO,qA,qT,qV,qS,qN,qCo,qCa,qCv,qCf,qCk,qXk,qXn,qXt,hx2,hx2c,hqO,hqA,hqT,hqV,hqS,hqN⟩:=Pat.form2 q
 rw [hx2] at hqc ⊢
 simp only [← hqO,← hqV,← hqS] at *
 generalize (yu d).1=c1 at *
 generalize (yu d).2.1=c2 at *
 generalize (yu d).2.2=c3 at *
 generalize (yu (d++[q])).1=f1 at *
 generalize (yu (d++[q])).2.1=f2 at *
 generalize (yu (d++[q])).2.2=f3 at *
 clear hx2 hx2c hqO hqA hqT hqV hqS hqN hty hsc
 have a1:iAdd .i64 c1 1=c1+1:=uh e_iAdd (by omega) (by omega)
 have a2:iAdd .i64 c2 1=c2+1:=uh e_iAdd (by omega) (by omega)
 cases ty<;>cases sc
 · have e1:c1=f1:=by simpa using e1.symm
   have e2:c2=f2:=by simpa using e2.symm
   have e3:c3=f3:=by simpa using e3.symm
   refine Aq ?_
   refine yZ rfl ?_
   have fz:=hrw
   refine Cq ?_
   refine Aq ?_
   exact uU rfl trivial (xx [.to 0,.to 1,.to 2,.gone,.gone,.gone,.gone,.to 7,.gone,.gone,.gone,.gone] [some 0,some 1,some 2,some 3,some 4,some 5,some 6,some 7,none,none] rfl ⟨rfl,rfl,rfl,rfl,rfl,rfl,rfl,rfl,trivial⟩ (by simp) (by simp) ⟨⟨by simp,rfl⟩,⟨by simp,rfl⟩,⟨by simp,rfl⟩,trivial,trivial,trivial,trivial,⟨by simp,rfl⟩,trivial,trivial,trivial,trivial,trivial⟩ ⟨zx (b:=0) rfl rfl rfl ⟨.of (congrArg int (by assumption)),trivial⟩,zx (b:=1) rfl rfl rfl ⟨.of (congrArg int (by assumption)),trivial⟩,zx (b:=2) rfl rfl rfl ⟨.of (congrArg bool (by assumption)),trivial⟩,.dead,.dead,.dead,.dead,.some 7 _ _ rfl rfl rfl (.loop _ _ _ _ _ _ _ _ ⟨.cl hip,.refl _,.refl _,.refl _,trivial⟩),.dead,.dead,trivial⟩)
 · have e1:c1=f1:=by simpa using e1.symm
   have e2:iAdd .i64 c2 1=f2:=by rw [a2];simpa using e2.symm
   have e3:bAnd c3 (iEq qS c2)=f3:=by simp only [ee];simpa using e3.symm
   refine Aq ?_
   refine yZ rfl ?_
   have fz:=hrw
   refine Cq ?_
   refine Aq ?_
   exact uU rfl trivial (xx [.to 0,.to 1,.to 2,.gone,.gone,.gone,.gone,.to 7,.gone,.gone,.gone,.gone] [some 0,some 1,some 2,some 3,some 4,some 5,some 6,some 7,none,none] rfl ⟨rfl,rfl,rfl,rfl,rfl,rfl,rfl,rfl,trivial⟩ (by simp) (by simp) ⟨⟨by simp,rfl⟩,⟨by simp,rfl⟩,⟨by simp,rfl⟩,trivial,trivial,trivial,trivial,⟨by simp,rfl⟩,trivial,trivial,trivial,trivial,trivial⟩ ⟨zx (b:=0) rfl rfl rfl ⟨.of (congrArg int (by assumption)),trivial⟩,zx (b:=1) rfl rfl rfl ⟨.of (congrArg int (by assumption)),trivial⟩,zx (b:=2) rfl rfl rfl ⟨.of (congrArg bool (by assumption)),trivial⟩,.dead,.dead,.dead,.dead,.some 7 _ _ rfl rfl rfl (.loop _ _ _ _ _ _ _ _ ⟨.cl hip,.refl _,.refl _,.refl _,trivial⟩),.dead,.dead,trivial⟩)
 · have e1:iAdd .i64 c1 1=f1:=by rw [a1];simpa using e1.symm
   have e2:c2=f2:=by simpa using e2.symm
   have e3:bAnd c3 (iEq qV c1)=f3:=by simp only [ee];simpa using e3.symm
   refine Aq ?_
   refine yZ rfl ?_
   have fz:=hrw
   refine Cq ?_
   refine Aq ?_
   exact uU rfl trivial (xx [.to 0,.to 1,.to 2,.gone,.gone,.gone,.gone,.to 7,.gone,.gone,.gone,.gone] [some 0,some 1,some 2,some 3,some 4,some 5,some 6,some 7,none,none] rfl ⟨rfl,rfl,rfl,rfl,rfl,rfl,rfl,rfl,trivial⟩ (by simp) (by simp) ⟨⟨by simp,rfl⟩,⟨by simp,rfl⟩,⟨by simp,rfl⟩,trivial,trivial,trivial,trivial,⟨by simp,rfl⟩,trivial,trivial,trivial,trivial,trivial⟩ ⟨zx (b:=0) rfl rfl rfl ⟨.of (congrArg int (by assumption)),trivial⟩,zx (b:=1) rfl rfl rfl ⟨.of (congrArg int (by assumption)),trivial⟩,zx (b:=2) rfl rfl rfl ⟨.of (congrArg bool (by assumption)),trivial⟩,.dead,.dead,.dead,.dead,.some 7 _ _ rfl rfl rfl (.loop _ _ _ _ _ _ _ _ ⟨.cl hip,.refl _,.refl _,.refl _,trivial⟩),.dead,.dead,trivial⟩)
 have e1:iAdd .i64 c1 1=f1:=by rw [a1];simpa using e1.symm
 have e2:iAdd .i64 c2 1=f2:=by rw [a2];simpa using e2.symm
 have e3:bAnd (bAnd c3 (iEq qV c1)) (iEq qS c2)=f3:=by simp only [ee];simpa using e3.symm
 refine Aq ?_
 refine yZ rfl ?_
 have fz:=hrw
 refine Cq ?_
 refine Aq ?_
 exact uU rfl trivial (xx [.to 0,.to 1,.to 2,.gone,.gone,.gone,.gone,.to 7,.gone,.gone,.gone,.gone] [some 0,some 1,some 2,some 3,some 4,some 5,some 6,some 7,none,none] rfl ⟨rfl,rfl,rfl,rfl,rfl,rfl,rfl,rfl,trivial⟩ (by simp) (by simp) ⟨⟨by simp,rfl⟩,⟨by simp,rfl⟩,⟨by simp,rfl⟩,trivial,trivial,trivial,trivial,⟨by simp,rfl⟩,trivial,trivial,trivial,trivial,trivial⟩ ⟨zx (b:=0) rfl rfl rfl ⟨.of (congrArg int (by assumption)),trivial⟩,zx (b:=1) rfl rfl rfl ⟨.of (congrArg int (by assumption)),trivial⟩,zx (b:=2) rfl rfl rfl ⟨.of (congrArg bool (by assumption)),trivial⟩,.dead,.dead,.dead,.dead,.some 7 _ _ rfl rfl rfl (.loop _ _ _ _ _ _ _ _ ⟨.cl hip,.refl _,.refl _,.refl _,trivial⟩),.dead,.dead,trivial⟩)
theorem wholeE_ok {p:Pat} (h:p.wholeE=0):p.chkR=0∧(∀ q∈p.nodes,q.nodeE=0)∧∀ q∈p.nodes,q.op<8:=by
 unfold Pat.wholeE at h
 by_cases h1:p.chkR=0
 · rw [if_neg (by simpa using h1)] at h
   have fe:∀ {F:Pat→Int} {l:List Pat},zU F l=0→∀ q∈l,F q=0:=by
    intro F l
    induction l with
    | nil=>intro _ q hq;cases hq
    | cons x r ih =>
     intro hf q hq
     rw [zU] at hf
     by_cases hx:F x=0
     · rw [if_neg (by simpa using hx)] at hf
       rcases List.mem_cons.1 hq with rfl | hq
       · exact hx
       exact ih hf q hq
     rw [if_pos hx] at hf;exact absurd hf hx
   refine ⟨h1,?_,fun q hq=>?_⟩
   · unfold Pat.chkR at h1
     split at h1
     · cases h1
     split at h1
     · cases h1
     exact fe h1
   have:=fe h q hq
   by_cases h8:8≤q.op
   · simp [h8] at this
   omega
 rw [if_pos h1] at h;exact absurd h h1
theorem nodeE_op {q:Pat} (h:q.nodeE=0):0≤q.op∧q.op<11:=by
 unfold Pat.nodeE at h
 by_cases h1:q.op<0∨11≤q.op
 · rw [if_pos h1] at h;cases h
 omega
def Pat.chk (p:Pat):Int:=if p.wholeE≠0 then p.wholeE else if (yu p.nodes).2.2=true then 0 else 14
theorem P_pattern_Check (p:Pat) (hs:p.Sm):PCall EE 24 [p.enc] (int p.chk):=by
 have h1:=P_whole p hs
 have h2:=fun h:p.wholeE=0=>P_count p hs fun q hq=>nodeE_op ((wholeE_ok h).2.1 q hq)
 have hcl:=Pat.closed p
 obtain ⟨R,hR⟩:∃ R,R=p.chk:=⟨_,rfl⟩
 rw [← hR]
 unfold Pat.chk at hR
 generalize p.wholeE=rn at *
 generalize (yu p.nodes).1=c1 at *
 generalize (yu p.nodes).2.1=c2 at *
 generalize (yu p.nodes).2.2=c3 at *
 obtain ⟨pO,pA,pT,pV,pS,pN,pCo,pCa,pCv,pCf,pCk,pXk,pXn,pXt,hx⟩:=Pat.form p
 rw [hx] at h1 h2 hcl ⊢
 refine zo ?_;unhygienic intros
 refine fB T24 [.t 2] ?_
 by_cases g1:rn=0
 rotate_left
 · have k1:iNe rn 0=true:=by simp only [ee];simpa using g1
   rw [if_pos g1] at hR
   refine Aq ?_
   refine oPA h1 ?_
   have fz:=k1
   refine Cq ?_
   refine Aq ?_
   exact fI (h:=hR.symm)
 have k1:iNe rn 0=false:=by simp only [ee];simpa using g1
 have h2:=h2 g1
 rw [if_neg (by simpa using g1)] at hR
 cases c3 with
 | true =>
  have k2:bNot true=false:=by simp only [ee];rfl
  refine Aq ?_
  refine oPA h1 ?_
  have fz:=And.intro k1 k2
  refine Cq ?_
  refine Aq ?_
  refine oPA h2 ?_
  refine Cq ?_
  refine Aq ?_
  exact fI (h:=hR.symm)
 | false =>
  have k2:bNot false=true:=by simp only [ee];rfl
  refine Aq ?_
  refine oPA h1 ?_
  have fz:=And.intro k1 k2
  refine Cq ?_
  refine Aq ?_
  refine oPA h2 ?_
  refine Cq ?_
  refine Aq ?_
  exact fI (h:=hR.symm)
def Pat0 : Pat:=.mk 0 [] 0 0 0 0 Ex0
theorem Pat0.enc_eq : Pat0.enc=.agg [int 0,.isl 14 [],int 0,int 0,int 0,int 0,int 0,.isl 8 [],int 0,int 0,int 0,int 0,int 0,str ⟨#[]⟩]:=by
 rw [Pat0,Ex0,Pat.enc_mk,zu,zu];rfl
end Go.Am
end
