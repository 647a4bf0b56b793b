/- Contracts of the program's functions. -/
import Derived.Test.YtpfnahcfnclgdaaGreatDoorProg
import Derived.Test.YtpfnahcfnclgdaaGreatDoorPCt4
noncomputable section
set_option maxHeartbeats 16000000
set_option maxRecDepth 100000
namespace Go.Am
open Go.Proofs
theorem OCall.pcall {E:Env} {f:FuncId} {args:List AV} {k n:Nat} {es:List AV} (h:OCall E f args (.sl 0 k 0 n) [.arr k es]) (hn:n=es.length) (hc:AV.closedL es=true):PCall E f args (.isl k es):=by
 refine ⟨h.1,fun K w ys hh hv=>(acall_fz (v:=.isl k es) (h.2.mono ?_) K w ys hh hv).mono ?_⟩
 · rintro u H' ⟨rfl,rfl⟩
   refine ⟨[.isl k es],⟨⟨_,rfl,(zw _ hc).symm⟩,trivial⟩,.of ?_⟩
   simp only [AV.sub,ofL]
   subst hn
   simp
   rw [show es.length.ble es.length=true from Nat.ble_eq_true_of_le (Nat.le_refl _)];rfl
 rintro e w' ⟨y,K',rfl,a,b,c⟩
 exact ⟨_,y,[],K',rfl,⟨rfl,rfl⟩,a,b,c⟩
def wI : Nat→List Br→List (Int × Int)
 | _,[]=>[]
 | i,b :: r=>(b.queries.map fun t=>((i:Int),t.query))++wI (i+1) r
def enA (y:Int × Int):List AV:=[int y.1,int y.2]
theorem ends_app : ∀ (a b:List Br) (i:Nat),wI i (a++b)=wI i a++wI (i+a.length) b
 | [],b,i=>rfl
 | x :: a,b,i=>by rw [List.cons_append,wI,wI,ends_app a b (i+1),List.append_assoc,List.length_cons,show i+(a.length+1)=i+1+a.length by omega]
theorem P_ends (nt:Nt):PCall EE 67 [nt.enc] (.fn 112 [.iptr nt.enc.cells]):=by
 have kn:=nt.closed
 rw [nt.enc_eq] at kn ⊢
 dsimp only [AV.cells]
 generalize zy Br.enc nt.brs=bs at *
 generalize zy Au.enc nt.rest=ra at *
 have kns:AV.closedL [.isl 11 bs,.isl 4 ra]=true:=by simpa only [AV.closed] using kn
 refine zo ?_;unhygienic intros
 refine fB T67 [.t 2] ?_
 refine Aq ?_
 refine zP rfl rfl ?_
 exact ⟨[.icells [.isl 11 bs,.isl 4 ra]],⟨⟨_,rfl,(zw _ kns).symm⟩,trivial⟩,.refl _⟩
theorem enters_prefix_ends_1 : xu EE.P 112:=enters_of rfl (by decide) T112.2
theorem X_ends (nt:Nt) (hb:nt.brs.length<1000000) (hq:∀ b∈nt.brs,b.queries.length<1000000):XCall EE.P EE.G 112 [.iptr nt.enc.cells] ((wI 0 nt.brs).map enA):=by
 refine ⟨enters_prefix_ends_1,fun X hS blk hy=>?_⟩
 have hlen:((wI 0 nt.brs).map enA).length=(wI 0 nt.brs).length:=List.length_map ..
 rw [hlen]
 have kn:=nt.closed
 have kb:=Br.closedI nt.brs
 have hbl:=zp Br.enc nt.brs
 rw [nt.enc_eq] at kn ⊢
 dsimp only [AV.cells]
 have hat:∀ (i:Nat) (b:Br),nt.brs[i]? = some b→(zy Br.enc nt.brs).getD i .undef=b.enc:=fun i b h=>by rw [zu];simp [List.getD_eq_getElem?_getD,List.getElem?_map,h]
 generalize zy Br.enc nt.brs=bs at *
 generalize zy Au.enc nt.rest=ra at *
 have kns:AV.closedL [.isl 11 bs,.isl 4 ra]=true:=by simpa only [AV.closed] using kn
 have knI:(AV.iptr [.isl 11 bs,.isl 4 ra]).closed=true:=by rw [AV.closed,kns]
 refine zo ?_;unhygienic intros
 have nt0:bNot true=false:=by simp only [ee];rfl
 have nf:bNot false=true:=by simp only [ee];rfl
 refine rB T112 [] ?_
 refine Aq ?_
 refine ze (ι:=List Br × List Br × Int × Nat) (fun p=>([(10,int p.2.2.1),(9,int (lenA bs)),(8,.isl 11 bs),(0,yv blk),(1,.iptr [.isl 11 bs,.isl 4 ra])],[.ext p.2.2.2 false])) (fun p=>nt.brs=p.1++p.2.1∧p.2.2.1=p.1.length∧p.2.2.2=(wI 0 p.1).length) (fun p=>p.2.1.length) ([],nt.brs,0,0) ⟨rfl,rfl,rfl⟩ ?_ ?_
 · exact yz ⟨.refl _,.refl _,.refl _,.refl _,.refl _,trivial⟩
 rintro ⟨d,r,i,c⟩ ⟨g1,gi,gc⟩
 dsimp only at g1 gi gc ⊢
 have g3:nt.brs.length=d.length+r.length:=by rw [g1,List.length_append]
 cases r with
 | nil =>
  simp only [List.length_nil,Nat.add_zero] at g3
  have hc:iLt i (lenA bs)=false:=xR e_iLt e_lenA (by omega)
  have hd:nt.brs=d:=by rw [g1,List.append_nil]
  rw [hd,← gc]
  have fz:=hc
  refine Cq ?_
  refine Aq ?_
  refine zk ?_
  refine Aq ?_
  exact oE_norm (fun _=>.inl rfl)
 | cons b r =>
  rw [List.length_cons] at g3
  have hc:iLt i (lenA bs)=true:=xU e_iLt e_lenA (by omega)
  have hbd:nt.brs[d.length]? = some b:=by rw [g1];simp
  have hel:atA bs i=b.enc:=by simp only [ee];rw [gi];exact hat _ b hbd
  have hi2:iAdd .i64 i 1=((d++[b]).length:Int):=by rw [List.length_append];exact yh e_iAdd gi (by omega)
  have hql:=hq b (by rw [g1];simp)
  have kq:=Tl.closedI b.queries
  have hqs:=zp Tl.enc b.queries
  have hout:∀ (j:Nat) (t:Tl),b.queries[j]? = some t→((wI 0 nt.brs).map enA)[c+j]? = some [int i,int t.query]:=fun j t ht=>by
   rw [g1,ends_app,wI,List.map_append,List.map_append,gc,List.getElem?_append_right (by simp),List.length_map,Nat.add_sub_cancel_left,List.getElem?_append_left (by simp;exact (List.getElem?_eq_some_iff.1 ht).1),List.map_map,List.getElem?_map,ht,gi]
   simp [enA]
  have hce:(wI 0 (d++[b])).length=c+b.queries.length:=by rw [ends_app,wI,wI,List.append_nil,List.length_append,List.length_map,gc]
  have kbe:=b.closed
  obtain ⟨co,ec,cv,cf,ck,xk,xn,xt,he,hec⟩:=b.form
  rw [he] at hel kbe
  generalize hts:b.queries=ts at *
  generalize hqe:zy Tl.enc ts=qs at *
  have kbs:AV.closedL [int b.parent,int b.ty,int co,.isl 8 ec,int cv,int cf,int ck,int xk,int xn,str xt,.isl 4 qs]=true:=by simpa only [AV.closed] using kbe
  have fz:=And.intro hc hel
  refine Cq ?_
  refine Cr ?_
  have fz:=hel
  refine Cq ?_
  refine ze (ι:=List Tl × List Tl × Int × Nat) (fun p=>([(18,int p.2.2.1),(17,int (lenA qs)),(16,.isl 4 qs),(3,int i),(10,int i),(9,int (lenA bs)),(8,.isl 11 bs),(0,yv blk),(1,.iptr [.isl 11 bs,.isl 4 ra])],[.ext p.2.2.2 false,.cells [int b.parent,int b.ty,int co,.isl 8 ec,int cv,int cf,int ck,int xk,int xn,str xt,.isl 4 qs]])) (fun p=>ts=p.1++p.2.1∧p.2.2.1=p.1.length∧p.2.2.2=c+p.1.length) (fun p=>p.2.1.length) ([],ts,0,c) ⟨rfl,rfl,rfl⟩ ?_ ?_
  · exact yz ⟨.refl _,.refl _,.refl _,.refl _,.refl _,.refl _,.refl _,.refl _,.refl _,trivial⟩
  rintro ⟨e,s,k,c2⟩ ⟨h1,hk,hc2⟩
  dsimp only at h1 hk hc2 ⊢
  have h3:ts.length=e.length+s.length:=by rw [h1,List.length_append]
  cases s with
  | nil =>
   simp only [List.length_nil,Nat.add_zero] at h3
   have hm:iLt k (lenA qs)=false:=xR e_iLt e_lenA (by omega)
   have fz:=hm
   refine Cq ?_
   refine goC 60 ?_
   refine zk ?_
   refine Aq ?_
   refine zm (d++[b],r,iAdd .i64 i 1,c2) ⟨by simp [g1],hi2,by show c2=(wI 0 (d++[b])).length;rw [hce];omega⟩ (by simp) ?_
   dsimp only
   refine xJ (H:=[.ext c2 false]) [] (KpA.mem ?_) trivial ?_ ?_
   · exact ⟨.ext,trivial⟩
   · exact ⟨.refl _,.refl _,.cl kb,.refl _,.cl knI,trivial⟩
   simp
  | cons t s =>
   rw [List.length_cons] at h3
   have hm:iLt k (lenA qs)=true:=xU e_iLt e_lenA (by omega)
   have hat2:=yX e_atA hqe h1 hk
   rw [Tl.enc_eq] at hat2
   have ho2:=hout e.length t (by rw [h1];simp)
   rw [← hc2] at ho2
   have hi3:iAdd .i64 k 1=((e++[t]).length:Int):=by rw [List.length_append];exact yh e_iAdd hk (by omega)
   generalize zy int t.vars=tv at *
   have fz:=And.intro hm hat2
   refine Cq ?_
   refine Cr ?_
   have fz:=hat2
   refine Cq ?_
   refine w9 hy ho2 rfl rfl rfl rfl (WkL.refl _ _) rfl rfl ?_ ?_
   · have fz:=And.intro nt0 nf
     refine Cq ?_
     refine goC 60 ?_
     refine zm (e++[t],s,iAdd .i64 k 1,c2+1) ⟨by simp [h1],hi3,by simp [hc2];omega⟩ (by simp) ?_
     dsimp only
     refine xJ (H:=[.ext (c2+1) false,.cells [int b.parent,int b.ty,int co,.isl 8 ec,int cv,int cf,int ck,int xk,int xn,str xt,.isl 4 qs]]) [] (KpA.mem ?_) trivial ?_ ?_
     · exact ⟨.ext,.cells (.cl kbs),trivial⟩
     · exact ⟨.refl _,.refl _,.cl kq,.refl _,.refl _,.refl _,.cl kb,.refl _,.cl knI,trivial⟩
     simp
   have fz:=And.intro nt0 nf
   refine Cq ?_
   refine goC 60 ?_
   refine zf ?_
   refine Aq ?_
   refine zf ?_
   refine Aq ?_
   exact tA (fun _=>.inr ⟨_,rfl⟩)
theorem out_block {E:Env} {n N:Nat} {Q:zL→AFr→zz→Prop} {k:List KI} {c:ACode} {i:Nat} {F:AFr} {H:zz} (h:zl E n N Q (.code c) k F H):zl E n N Q (.out (.exit i)) (.block i :: .seq c :: k) F H:=by
 show uo E n N Q (.block i :: .seq c :: k) (.exit i) F H
 rw [uo]
 rw [if_pos rfl]
 exact h
theorem vX {E:Env} {n N:Nat} {Q:zL→AFr→zz→Prop} {k:List KI} {a b:ACode} {F:AFr} {H:zz} (h:zl E n N Q (.code a) (.seq b :: k) F H):zl E n N Q (.code (.seq a b)) k F H :=
 awp_seq (AWP.mono h fun e F H h=>by cases e<;>exact h)
def yp : Nat→ACode→ACode
 | 0,c=>c
 | i+1,.seq _ r=>yp i r
 | _+1,c=>c
def vV : ACode→ACode
 | .seq a _=>a
 | c=>c
theorem aw_tail (br au:List AV) (hbl:br.length=3) (x0 x1 x2:List AV) (hb0:br.getD 0 .undef=.agg x0) (hb1:br.getD 1 .undef=.agg x1) (hb2:br.getD 2 .undef=.agg x2)
 (v0 v1 v2 w0 w1 w2:List AV) (d0:w0=[.agg [int 2,.isl 1 v0,bool false,int 0]]) (d1:w1=[.agg [int 1,.isl 1 v1,bool false,int 1]]) (d2:w2=[.agg [int 0,.isl 1 v2,bool true,int 0]]) (c0:∃ (y1 y2 y3 y5 y6 y7 y8 y9:Int) (y4:List AV) (yt:ByteArray),x0=[int y1,int y2,int y3,.isl 8 y4,int y5,int y6,int y7,int y8,int y9,str yt,.isl 4 w0])
 (c1:∃ (y1 y2 y3 y5 y6 y7 y8 y9:Int) (y4:List AV) (yt:ByteArray),x1=[int y1,int y2,int y3,.isl 8 y4,int y5,int y6,int y7,int y8,int y9,str yt,.isl 4 w1])
 (c2:∃ (y1 y2 y3 y5 y6 y7 y8 y9:Int) (y4:List AV) (yt:ByteArray),x2=[int y1,int y2,int y3,.isl 8 y4,int y5,int y6,int y7,int y8,int y9,str yt,.isl 4 w2])
 (kv0:AV.closedL v0=true) (kv1:AV.closedL v1=true) (kv2:AV.closedL v2=true) :
 zl EE 155 0 (vC [.t 0] (bool true)) (.code (yp 7 T12.1)) [] [(5,.ptr 0 0),(0,bool false)] [.cells [.isl 11 br,.isl 4 au]]:=by
 obtain ⟨p1,p2,p3,p5,p6,p7,p8,p9,p4,pt,rfl⟩:=c0
 obtain ⟨q1,q2,q3,q5,q6,q7,q8,q9,q4,qt,rfl⟩:=c1
 obtain ⟨r1,r2,r3,r5,r6,r7,r8,r9,r4,rt,rfl⟩:=c2
 refine zo ?_;unhygienic intros
 have hlb:lenA br=3:=by simp only [ee];omega
 have hr0:atA br 0=_:=(show atA br 0=br.getD 0 .undef by simp only [ee];rfl).trans hb0
 have hr1:atA br 1=_:=(show atA br 1=br.getD 1 .undef by simp only [ee];rfl).trans hb1
 have hr2:atA br 2=_:=(show atA br 2=br.getD 2 .undef by simp only [ee];rfl).trans hb2
 have hw0:atA w0 0=.agg [int 2,.isl 1 v0,bool false,int 0]:=by simp only [ee];rw [d0];rfl
 have hw1:atA w1 0=.agg [int 1,.isl 1 v1,bool false,int 1]:=by simp only [ee];rw [d1];rfl
 have hw2:atA w2 0=.agg [int 0,.isl 1 v2,bool true,int 0]:=by simp only [ee];rw [d2];rfl
 have hl0:w0.length=1:=by rw [d0];rfl
 have hl1:w1.length=1:=by rw [d1];rfl
 have hl2:w2.length=1:=by rw [d2];rfl
 have m0:iEq 0 0=true:=by simp only [ee];rfl
 have m1:iEq 1 1=true:=by simp only [ee];rfl
 have m2:iEq 2 2=true:=by simp only [ee];rfl
 refine vX (a:=vV (yp 7 T12.1)) (b:=yp 8 T12.1) ?_
 refine trp_drawE [21,22,23,24,25,26] [[21,22,23,24,25,26],[21,23,22,24,25,26],[22,21,23,24,25,26],[22,23,21,24,25,26],[23,21,22,24,25,26],[23,22,21,24,25,26]] [(11,.ptr 2 0),(10,.ptr 1 0),(9,.ptr 0 0),(0,bool false)] [.cells [int 0,.isl 1 v2,bool true,int 0],.cells [int 1,.isl 1 v1,bool false,int 1],.cells [int 2,.isl 1 v0,bool false,int 0]] rfl rfl rfl (by decide) rfl ?hr ⟨⟨[0,1,2,3,4,5,6,7,8,9,10,11,12,13,14,15,16,17,18,19,20,21,22,23,24,25,26],rfl,?c0⟩,⟨[0,1,2,3,4,5,6,7,8,9,10,11,12,13,14,15,16,17,18,19,20,21,23,22,24,25,26],rfl,?c1⟩,⟨[0,1,2,3,4,5,6,7,8,9,10,11,12,13,14,15,16,17,18,19,20,22,21,23,24,25,26],rfl,?c2⟩,⟨[0,1,2,3,4,5,6,7,8,9,10,11,12,13,14,15,16,17,18,19,20,22,23,21,24,25,26],rfl,?c3⟩,⟨[0,1,2,3,4,5,6,7,8,9,10,11,12,13,14,15,16,17,18,19,20,23,21,22,24,25,26],rfl,?c4⟩,⟨[0,1,2,3,4,5,6,7,8,9,10,11,12,13,14,15,16,17,18,19,20,23,22,21,24,25,26],rfl,?c5⟩,trivial⟩
 case c0 =>
  as_aux_lemma =>
  refine yr 3 hX (by conv=>lhs;cbv;rw [hr2];cbv) ?_ ?_
  · first | exact trivial | (simp only [Cd.ok,ee];and_intros<;>first | omega | rfl | (simp<;>omega))
  refine yr 3 hX (by conv=>lhs;cbv;rw [hw2];cbv) ?_ ?_
  · first | exact trivial | (simp only [Cd.ok,ee];and_intros<;>first | omega | rfl | (simp<;>omega))
  refine yr 4 hX (by conv=>lhs;cbv;rw [hr1];cbv) ?_ ?_
  · first | exact trivial | (simp only [Cd.ok,ee];and_intros<;>first | omega | rfl | (simp<;>omega))
  refine yr 3 hX (by conv=>lhs;cbv;rw [hw1];cbv) ?_ ?_
  · first | exact trivial | (simp only [Cd.ok,ee];and_intros<;>first | omega | rfl | (simp<;>omega))
  refine yr 4 hX (by conv=>lhs;cbv;rw [hr0];cbv) ?_ ?_
  · first | exact trivial | (simp only [Cd.ok,ee];and_intros<;>first | omega | rfl | (simp<;>omega))
  refine yr 3 hX (by conv=>lhs;cbv;rw [hw0];cbv) ?_ ?_
  · first | exact trivial | (simp only [Cd.ok,ee];and_intros<;>first | omega | rfl | (simp<;>omega))
  refine yr 20 hX (by conv=>lhs;cbv) ?_ ?_
  · first | exact trivial | (simp only [Cd.ok];and_intros<;>first | omega | rfl | (simp<;>omega))
  refine zK ⟨by simp [xh],?_,?_⟩
  · simp only [vb,zd,List.cons_append,List.nil_append,List.append_nil];and_intros<;>first | trivial | (intro hp;first | rfl | exact absurd (show false=true from hp) Bool.false_ne_true)
  exact ya [.gone,.to 0,.to 1,.to 2] [some 1,some 2,some 3] ⟨trivial,⟨by simp,rfl⟩,⟨by simp,rfl⟩,⟨by simp,rfl⟩,trivial⟩ ⟨zx (b:=1) rfl rfl rfl ⟨.refl _,.cl (by simpa only [AV.closed] using kv2),.refl _,.refl _,trivial⟩,zx (b:=2) rfl rfl rfl ⟨.refl _,.cl (by simpa only [AV.closed] using kv1),.refl _,.refl _,trivial⟩,zx (b:=3) rfl rfl rfl ⟨.refl _,.cl (by simpa only [AV.closed] using kv0),.refl _,.refl _,trivial⟩,trivial⟩ ⟨.refl _,.refl _,.refl _,.refl _,trivial⟩
 case c1 =>
  as_aux_lemma =>
  refine yr 3 hX (by conv=>lhs;cbv;rw [hr2];cbv) ?_ ?_
  · first | exact trivial | (simp only [Cd.ok,ee];and_intros<;>first | omega | rfl | (simp<;>omega))
  refine yr 3 hX (by conv=>lhs;cbv;rw [hw2];cbv) ?_ ?_
  · first | exact trivial | (simp only [Cd.ok,ee];and_intros<;>first | omega | rfl | (simp<;>omega))
  refine yr 4 hX (by conv=>lhs;cbv;rw [hr1];cbv) ?_ ?_
  · first | exact trivial | (simp only [Cd.ok,ee];and_intros<;>first | omega | rfl | (simp<;>omega))
  refine yr 3 hX (by conv=>lhs;cbv;rw [hw1];cbv) ?_ ?_
  · first | exact trivial | (simp only [Cd.ok,ee];and_intros<;>first | omega | rfl | (simp<;>omega))
  refine yr 4 hX (by conv=>lhs;cbv;rw [hr0];cbv) ?_ ?_
  · first | exact trivial | (simp only [Cd.ok,ee];and_intros<;>first | omega | rfl | (simp<;>omega))
  refine yr 3 hX (by conv=>lhs;cbv;rw [hw0];cbv) ?_ ?_
  · first | exact trivial | (simp only [Cd.ok,ee];and_intros<;>first | omega | rfl | (simp<;>omega))
  refine yr 20 hX (by conv=>lhs;cbv) ?_ ?_
  · first | exact trivial | (simp only [Cd.ok];and_intros<;>first | omega | rfl | (simp<;>omega))
  refine zK ⟨by simp [xh],?_,?_⟩
  · simp only [vb,zd,List.cons_append,List.nil_append,List.append_nil];and_intros<;>first | trivial | (intro hp;first | rfl | exact absurd (show false=true from hp) Bool.false_ne_true)
  exact ya [.gone,.to 0,.to 2,.to 1] [some 1,some 3,some 2] ⟨trivial,⟨by simp,rfl⟩,⟨by simp,rfl⟩,⟨by simp,rfl⟩,trivial⟩ ⟨zx (b:=1) rfl rfl rfl ⟨.refl _,.cl (by simpa only [AV.closed] using kv2),.refl _,.refl _,trivial⟩,zx (b:=3) rfl rfl rfl ⟨.refl _,.cl (by simpa only [AV.closed] using kv1),.refl _,.refl _,trivial⟩,zx (b:=2) rfl rfl rfl ⟨.refl _,.cl (by simpa only [AV.closed] using kv0),.refl _,.refl _,trivial⟩,trivial⟩ ⟨.refl _,.refl _,.refl _,.refl _,trivial⟩
 case c2 =>
  as_aux_lemma =>
  refine yr 3 hX (by conv=>lhs;cbv;rw [hr2];cbv) ?_ ?_
  · first | exact trivial | (simp only [Cd.ok,ee];and_intros<;>first | omega | rfl | (simp<;>omega))
  refine yr 3 hX (by conv=>lhs;cbv;rw [hw2];cbv) ?_ ?_
  · first | exact trivial | (simp only [Cd.ok,ee];and_intros<;>first | omega | rfl | (simp<;>omega))
  refine yr 4 hX (by conv=>lhs;cbv;rw [hr1];cbv) ?_ ?_
  · first | exact trivial | (simp only [Cd.ok,ee];and_intros<;>first | omega | rfl | (simp<;>omega))
  refine yr 3 hX (by conv=>lhs;cbv;rw [hw1];cbv) ?_ ?_
  · first | exact trivial | (simp only [Cd.ok,ee];and_intros<;>first | omega | rfl | (simp<;>omega))
  refine yr 4 hX (by conv=>lhs;cbv;rw [hr0];cbv) ?_ ?_
  · first | exact trivial | (simp only [Cd.ok,ee];and_intros<;>first | omega | rfl | (simp<;>omega))
  refine yr 3 hX (by conv=>lhs;cbv;rw [hw0];cbv) ?_ ?_
  · first | exact trivial | (simp only [Cd.ok,ee];and_intros<;>first | omega | rfl | (simp<;>omega))
  refine yr 20 hX (by conv=>lhs;cbv) ?_ ?_
  · first | exact trivial | (simp only [Cd.ok];and_intros<;>first | omega | rfl | (simp<;>omega))
  refine zK ⟨by simp [xh],?_,?_⟩
  · simp only [vb,zd,List.cons_append,List.nil_append,List.append_nil];and_intros<;>first | trivial | (intro hp;first | rfl | exact absurd (show false=true from hp) Bool.false_ne_true)
  exact ya [.gone,.to 1,.to 0,.to 2] [some 2,some 1,some 3] ⟨trivial,⟨by simp,rfl⟩,⟨by simp,rfl⟩,⟨by simp,rfl⟩,trivial⟩ ⟨zx (b:=2) rfl rfl rfl ⟨.refl _,.cl (by simpa only [AV.closed] using kv2),.refl _,.refl _,trivial⟩,zx (b:=1) rfl rfl rfl ⟨.refl _,.cl (by simpa only [AV.closed] using kv1),.refl _,.refl _,trivial⟩,zx (b:=3) rfl rfl rfl ⟨.refl _,.cl (by simpa only [AV.closed] using kv0),.refl _,.refl _,trivial⟩,trivial⟩ ⟨.refl _,.refl _,.refl _,.refl _,trivial⟩
 case c3 =>
  as_aux_lemma =>
  refine yr 3 hX (by conv=>lhs;cbv;rw [hr2];cbv) ?_ ?_
  · first | exact trivial | (simp only [Cd.ok,ee];and_intros<;>first | omega | rfl | (simp<;>omega))
  refine yr 3 hX (by conv=>lhs;cbv;rw [hw2];cbv) ?_ ?_
  · first | exact trivial | (simp only [Cd.ok,ee];and_intros<;>first | omega | rfl | (simp<;>omega))
  refine yr 4 hX (by conv=>lhs;cbv;rw [hr1];cbv) ?_ ?_
  · first | exact trivial | (simp only [Cd.ok,ee];and_intros<;>first | omega | rfl | (simp<;>omega))
  refine yr 3 hX (by conv=>lhs;cbv;rw [hw1];cbv) ?_ ?_
  · first | exact trivial | (simp only [Cd.ok,ee];and_intros<;>first | omega | rfl | (simp<;>omega))
  refine yr 4 hX (by conv=>lhs;cbv;rw [hr0];cbv) ?_ ?_
  · first | exact trivial | (simp only [Cd.ok,ee];and_intros<;>first | omega | rfl | (simp<;>omega))
  refine yr 3 hX (by conv=>lhs;cbv;rw [hw0];cbv) ?_ ?_
  · first | exact trivial | (simp only [Cd.ok,ee];and_intros<;>first | omega | rfl | (simp<;>omega))
  refine yr 20 hX (by conv=>lhs;cbv) ?_ ?_
  · first | exact trivial | (simp only [Cd.ok];and_intros<;>first | omega | rfl | (simp<;>omega))
  refine zK ⟨by simp [xh],?_,?_⟩
  · simp only [vb,zd,List.cons_append,List.nil_append,List.append_nil];and_intros<;>first | trivial | (intro hp;first | rfl | exact absurd (show false=true from hp) Bool.false_ne_true)
  exact ya [.gone,.to 1,.to 2,.to 0] [some 3,some 1,some 2] ⟨trivial,⟨by simp,rfl⟩,⟨by simp,rfl⟩,⟨by simp,rfl⟩,trivial⟩ ⟨zx (b:=3) rfl rfl rfl ⟨.refl _,.cl (by simpa only [AV.closed] using kv2),.refl _,.refl _,trivial⟩,zx (b:=1) rfl rfl rfl ⟨.refl _,.cl (by simpa only [AV.closed] using kv1),.refl _,.refl _,trivial⟩,zx (b:=2) rfl rfl rfl ⟨.refl _,.cl (by simpa only [AV.closed] using kv0),.refl _,.refl _,trivial⟩,trivial⟩ ⟨.refl _,.refl _,.refl _,.refl _,trivial⟩
 case c4 =>
  as_aux_lemma =>
  refine yr 3 hX (by conv=>lhs;cbv;rw [hr2];cbv) ?_ ?_
  · first | exact trivial | (simp only [Cd.ok,ee];and_intros<;>first | omega | rfl | (simp<;>omega))
  refine yr 3 hX (by conv=>lhs;cbv;rw [hw2];cbv) ?_ ?_
  · first | exact trivial | (simp only [Cd.ok,ee];and_intros<;>first | omega | rfl | (simp<;>omega))
  refine yr 4 hX (by conv=>lhs;cbv;rw [hr1];cbv) ?_ ?_
  · first | exact trivial | (simp only [Cd.ok,ee];and_intros<;>first | omega | rfl | (simp<;>omega))
  refine yr 3 hX (by conv=>lhs;cbv;rw [hw1];cbv) ?_ ?_
  · first | exact trivial | (simp only [Cd.ok,ee];and_intros<;>first | omega | rfl | (simp<;>omega))
  refine yr 4 hX (by conv=>lhs;cbv;rw [hr0];cbv) ?_ ?_
  · first | exact trivial | (simp only [Cd.ok,ee];and_intros<;>first | omega | rfl | (simp<;>omega))
  refine yr 3 hX (by conv=>lhs;cbv;rw [hw0];cbv) ?_ ?_
  · first | exact trivial | (simp only [Cd.ok,ee];and_intros<;>first | omega | rfl | (simp<;>omega))
  refine yr 20 hX (by conv=>lhs;cbv) ?_ ?_
  · first | exact trivial | (simp only [Cd.ok];and_intros<;>first | omega | rfl | (simp<;>omega))
  refine zK ⟨by simp [xh],?_,?_⟩
  · simp only [vb,zd,List.cons_append,List.nil_append,List.append_nil];and_intros<;>first | trivial | (intro hp;first | rfl | exact absurd (show false=true from hp) Bool.false_ne_true)
  exact ya [.gone,.to 2,.to 0,.to 1] [some 2,some 3,some 1] ⟨trivial,⟨by simp,rfl⟩,⟨by simp,rfl⟩,⟨by simp,rfl⟩,trivial⟩ ⟨zx (b:=2) rfl rfl rfl ⟨.refl _,.cl (by simpa only [AV.closed] using kv2),.refl _,.refl _,trivial⟩,zx (b:=3) rfl rfl rfl ⟨.refl _,.cl (by simpa only [AV.closed] using kv1),.refl _,.refl _,trivial⟩,zx (b:=1) rfl rfl rfl ⟨.refl _,.cl (by simpa only [AV.closed] using kv0),.refl _,.refl _,trivial⟩,trivial⟩ ⟨.refl _,.refl _,.refl _,.refl _,trivial⟩
 case c5 =>
  as_aux_lemma =>
  refine yr 3 hX (by conv=>lhs;cbv;rw [hr2];cbv) ?_ ?_
  · first | exact trivial | (simp only [Cd.ok,ee];and_intros<;>first | omega | rfl | (simp<;>omega))
  refine yr 3 hX (by conv=>lhs;cbv;rw [hw2];cbv) ?_ ?_
  · first | exact trivial | (simp only [Cd.ok,ee];and_intros<;>first | omega | rfl | (simp<;>omega))
  refine yr 4 hX (by conv=>lhs;cbv;rw [hr1];cbv) ?_ ?_
  · first | exact trivial | (simp only [Cd.ok,ee];and_intros<;>first | omega | rfl | (simp<;>omega))
  refine yr 3 hX (by conv=>lhs;cbv;rw [hw1];cbv) ?_ ?_
  · first | exact trivial | (simp only [Cd.ok,ee];and_intros<;>first | omega | rfl | (simp<;>omega))
  refine yr 4 hX (by conv=>lhs;cbv;rw [hr0];cbv) ?_ ?_
  · first | exact trivial | (simp only [Cd.ok,ee];and_intros<;>first | omega | rfl | (simp<;>omega))
  refine yr 3 hX (by conv=>lhs;cbv;rw [hw0];cbv) ?_ ?_
  · first | exact trivial | (simp only [Cd.ok,ee];and_intros<;>first | omega | rfl | (simp<;>omega))
  refine yr 20 hX (by conv=>lhs;cbv) ?_ ?_
  · first | exact trivial | (simp only [Cd.ok];and_intros<;>first | omega | rfl | (simp<;>omega))
  refine zK ⟨by simp [xh],?_,?_⟩
  · simp only [vb,zd,List.cons_append,List.nil_append,List.append_nil];and_intros<;>first | trivial | (intro hp;first | rfl | exact absurd (show false=true from hp) Bool.false_ne_true)
  exact ya [.gone,.to 2,.to 1,.to 0] [some 3,some 2,some 1] ⟨trivial,⟨by simp,rfl⟩,⟨by simp,rfl⟩,⟨by simp,rfl⟩,trivial⟩ ⟨zx (b:=3) rfl rfl rfl ⟨.refl _,.cl (by simpa only [AV.closed] using kv2),.refl _,.refl _,trivial⟩,zx (b:=2) rfl rfl rfl ⟨.refl _,.cl (by simpa only [AV.closed] using kv1),.refl _,.refl _,trivial⟩,zx (b:=1) rfl rfl rfl ⟨.refl _,.cl (by simpa only [AV.closed] using kv0),.refl _,.refl _,trivial⟩,trivial⟩ ⟨.refl _,.refl _,.refl _,.refl _,trivial⟩
 have fz:=And.intro m0 (And.intro m1 m2)
 refine Cq ?_
 exact fBo (h:=by simp only [ee];rfl)
end Go.Am
end
