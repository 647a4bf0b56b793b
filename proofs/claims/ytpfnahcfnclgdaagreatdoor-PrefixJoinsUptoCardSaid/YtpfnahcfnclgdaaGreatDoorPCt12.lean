/- Contracts of the program's functions. -/
import Derived.Test.YtpfnahcfnclgdaaGreatDoorProg
import Derived.Test.YtpfnahcfnclgdaaGreatDoorPCt11
import Derived.Test.YtpfnahcfnclgdaaGreatDoorPCt7
noncomputable section
set_option maxHeartbeats 16000000
set_option maxRecDepth 100000
namespace Go.Am
open Go.Proofs
structure RsOk (p:Pat):Prop where
 cnt:p.cnt≤900
 exs:∀ c∈p.exs,c.Sm
 prs:PrsT p
 ne:p.outs≠[]
theorem RsOk.sm {p:Pat} (h:RsOk p):p.Sm:=⟨by have:=h.cnt;omega,h.exs⟩
theorem O_derivedS {p:Pat} {S:List Ed × List Pat} (h:RsOk p) (hd:p.der=some S):OCall EE 156 [p.enc] (.tup [.sl 0 17 0 S.1.length,.isl 14 (zy Pat.enc S.2),int 0]) [.arr 17 (zy Ed.enc S.1)] :=
 ⟨enters_derivative_derived,(C_derived p h.ne h.cnt h.exs h.prs).mono fun v H' hr=>by rw [hd] at hr;exact hr⟩
theorem O_derivedN {p:Pat} (h:RsOk p) (hd:p.der=none):OCall EE 156 [p.enc] (.tup [.val (.slice none 0 0),.val (.slice none 0 0),int 17]) [] :=
 ⟨enters_derivative_derived,(C_derived p h.ne h.cnt h.exs h.prs).mono fun v H' hr=>by rw [hd] at hr;exact hr⟩
theorem O_DeriveS {p:Pat} {S:List Ed × List Pat} (h:RsOk p) (hc:p.chkR=0) (hd:p.der=some S):OCall EE 159 [p.enc] (.tup [.sl 0 17 0 S.1.length,.isl 14 (zy Pat.enc S.2),int 0]) [.arr 17 (zy Ed.enc S.1)]:=by
 have pc:=vR p h.sm
 have po:=O_derivedS h hd
 have kes:=Ed.closedL' S.1
 have krs:=Pat.closedL' S.2
 have kri:=Pat.closedI S.2
 have hcl:=Pat.closed p
 rw [hc] at pc
 obtain ⟨pO,pA,pT,pV,pS,pN,pCo,pCa,pCv,pCf,pCk,pXk,pXn,pXt,hx⟩:=Pat.form p
 rw [hx] at hcl pc po ⊢
 generalize zy Ed.enc S.1=el at *
 generalize zy Pat.enc S.2=rl at *
 generalize S.1.length=n at *
 refine zo ?_;unhygienic intros
 have k0:iNe 0 0=false:=by simp only [ee];rfl
 refine oB T159 [.t 2,.t 3,.t 4] ?_
 refine Aq ?_
 refine zh (args:=[.agg [int pO,.isl 14 pA,int pT,int pV,int pS,int pN,int pCo,.isl 8 pCa,int pCv,int pCf,int pCk,int pXk,int pXn,str pXt]]) rfl rfl rfl pc (zg hcl) ?_
 have fz:=k0
 refine Cq ?_
 refine goC 60 ?_
 refine wH (args:=[.agg [int pO,.isl 14 pA,int pT,int pV,int pS,int pN,int pCo,.isl 8 pCa,int pCv,int pCf,int pCk,int pXk,int pXn,str pXt]]) (v':=.tup [.sl 1 17 0 n,.isl 14 rl,int 0]) (H':=[.arr 17 el]) rfl rfl rfl po (zg hcl) ?_ (uC kes) ?_
 · show AV.tup [_,AV.isl 14 (AV.subL _ rl),_]=_
   rw [zw _ krs];rfl
 refine Aq ?_
 refine wo (F2:=[(2,.sl 0 17 0 n),(3,.isl 14 rl),(4,int 0)]) (H2:=[.arr 17 el]) (eS [.gone,.to 0] [some 1]) rfl ⟨rfl,rfl⟩
structure RsSet (G:Pat→Prop):Prop where
 ok:∀ q,G q→RsOk q
 der:∀ q,G q→∀ S,q.der=some S→∀ r∈S.2,G r
theorem der_ok {p:Pat} (h:RsOk p) {S:List Ed × List Pat} (hd:p.der=some S):sK p S:=by
 have key:∀ (l:List (Ed × Option Pat)) (S0 S1:List Ed × List Pat),(∀ y∈l,y∈p.outs)→sK p S0→um l S0=some S1→sK p S1:=by
  intro l
  induction l with
  | nil=>intro S0 S1 _ h0 he;cases he;exact h0
  | cons y r ih =>
   intro S0 S1 hm h0 he
   rw [um] at he
   split at he
   · cases he
   rename_i S' hs
   have hy:=hm y (by simp)
   have b:=outs_bd p y hy
   have hE:∀ c,(c∈p.exs∨c=Ex0)→c.Sm:=fun c hc=>hc.elim (h.exs c) (fun hc=>by rw [hc];unfold Ex.Sm;decide)
   have hc:=h.cnt
   refine ih S' S1 (fun z hz=>hm z (by simp [hz])) (derS_ok h0 ⟨hE _ b.cond,fun c h=>hE c (b.chk c h),?_,?_,?_,?_,?_⟩ (fun q hq=>⟨?_,fun c hc=>hE c (b.exs q hq c hc)⟩) hs) he
   · have:=b.opens;omega
   · have:=b.closes;omega
   · have:=b.checks;omega
   · have:=b.limits;omega
   · have:=b.inside;omega
   have h1:=b.cnt q hq
   have h2:p.cnt * p.cnt≤900 * 900:=Nat.mul_le_mul hc hc
   omega
 exact key p.outs ([],[]) S (fun y hy=>hy) ⟨by simp,by simp,by simp,by simp,by simp⟩ hd
theorem upto_len (n:Nat):(upto n).length=n:=by simp [upto]
theorem upto_succ (n:Nat):upto (n+1)=upto n++[(n:Int)]:=by simp [upto,List.range_succ]
theorem P_firsts (d:Nat) (hd:d<1000000):PCall EE 51 [int d] (.isl 1 (zy int (upto d))):=by
 obtain ⟨di,hdi⟩:∃ di:Int,di=d:=⟨_,rfl⟩
 rw [← hdi]
 refine zo ?_;unhygienic intros
 refine fB T51 [.t 2] ?_
 refine Aq ?_
 refine ze (ι:=Nat × Int) (fun p=>([(6,int p.2),(5,int di),(3,.sl 0 1 0 p.1)],[.arr 1 (zy int (upto p.1))])) (fun p=>p.2=p.1∧p.1≤d) (fun p=>d - p.1) (0,0) ⟨rfl,Nat.zero_le _⟩ ?_ ?_
 · dsimp only
   rw [show zy int (upto 0)=[] by rw [zu];rfl]
   exact ya [] [none] trivial ⟨.none _ rfl,trivial⟩ ⟨.refl _,.refl _,.nilS _ _ _ (by simp),trivial⟩
 rintro ⟨k,v⟩ ⟨gv,gk⟩
 dsimp only at gv gk ⊢
 have kd:=vO (upto k)
 have hdl:=zp int (upto k)
 rw [upto_len] at hdl
 by_cases hk:k<d
 · have m1:iLt v di=true:=by simp only [ee];simp;omega
   have kd2:=vO (upto (k+1))
   have hsn:zy int (upto (k+1))=zy int (upto k)++[int v]:=by rw [upto_succ,zu,zu,List.map_append,gv];rfl
   have hi2:iAdd .i64 v 1=((k+1:Nat):Int):=yh e_iAdd gv (by omega)
   obtain ⟨dl,hD1⟩:∃ y,y=zy int (upto k):=⟨_,rfl⟩
   obtain ⟨dl2,hD2⟩:∃ y,y=zy int (upto (k+1)):=⟨_,rfl⟩
   obtain ⟨n1,hn1⟩:∃ y,y=k+1:=⟨_,rfl⟩
   rw [← hD1]
   rw [← hD1] at hsn kd hdl
   rw [← hD2] at hsn kd2
   have f1:addN k (lenN (partA [int v] 0 1))=n1:=by simp only [ee];rw [hn1];rfl
   have f2:catA (dropA dl 0) (partA [int v] 0 1)=dl2:=by simp only [ee];rw [hsn];simp
   have fz:=m1
   refine Cq ?_
   have fz:=And.intro m1 (And.intro f1 f2)
   refine Cr ?_
   have fz:=And.intro f1 f2
   refine goC 60 ?_
   refine zm (k+1,iAdd .i64 v 1) ⟨hi2,by dsimp only;omega⟩ (by dsimp only;omega) ?_
   dsimp only
   rw [← hD2,← hn1]
   exact ya [.gone,.gone,.to 0] [some 2] ⟨trivial,trivial,⟨by simp,rfl⟩,trivial⟩ ⟨zR (b:=2) rfl rfl rfl rfl kd2,trivial⟩ ⟨.refl _,.refl _,.refl _,trivial⟩
 have m1:iLt v di=false:=by simp only [ee];simp;omega
 have hkd:k=d:=by omega
 rw [← hkd]
 generalize zy int (upto k)=dl at *
 have fz:=m1
 refine Cq ?_
 refine goC 60 ?_
 refine zk ?_
 refine Aq ?_
 refine zP rfl rfl ?_
 exact ⟨[.isl 1 dl],⟨⟨_,rfl,(zw _ kd).symm⟩,trivial⟩,.of (xf rfl hdl.symm)⟩
theorem P_child (l:List Br) (b:Br) (hs:∀ x∈l,x.cond.Sm) (hl:l.length<1048577):PCall EE 50 [.isl 11 (zy Br.enc l),b.enc] (int (yP (fun x=>wJ x b) l 0)):=by
 have h1:=P_IndexFuncB 97 [.iptr b.enc.cells] (zg (by
  obtain ⟨co,ec,cv,cf,ck,xk,xn,xt,he,hec⟩:=b.form
  have:=b.closed
  rw [he] at this ⊢
  simpa [AV.cells,AV.closed,AV.closedL] using this)) (fun x=>wJ x b) l hl (fun x hx=>P_child1 x b (hs x hx))
 have hcl:=b.closed
 have kl:=Br.closedI l
 obtain ⟨co,ec,cv,cf,ck,xk,xn,xt,he,hec⟩:=b.form
 rw [he] at hcl h1 ⊢
 dsimp only [AV.cells] at h1
 generalize zy Tl.enc b.queries=qq at *
 have kcl:AV.closedL [int b.parent,int b.ty,int co,.isl 8 ec,int cv,int cf,int ck,int xk,int xn,str xt,.isl 4 qq]=true:=by simpa only [AV.closed] using hcl
 generalize zy Br.enc l=es at *
 generalize yP (fun x=>wJ x b) l 0=R at *
 refine zo ?_;unhygienic intros
 refine fB T50 [.t 4] ?_
 refine Aq ?_
 refine wW (wX (F':=[(6,.fn 97 [.iptr [int b.parent,int b.ty,int co,.isl 8 ec,int cv,int cf,int ck,int xk,int xn,str xt,.isl 4 qq]]),(5,.isl 11 es)]) 0 [.icells [int b.parent,int b.ty,int co,.isl 8 ec,int cv,int cf,int ck,int xk,int xn,str xt,.isl 4 qq]] rfl trivial ⟨⟨_,rfl,(zw _ kcl).symm⟩,trivial⟩ ⟨.refl _,.cl kl,trivial⟩ (by simp)) ?_
 refine zh (args:=[.isl 11 es,.fn 97 [.iptr [int b.parent,int b.ty,int co,.isl 8 ec,int cv,int cf,int ck,int xk,int xn,str xt,.isl 4 qq]]]) rfl rfl rfl h1 (by rw [AV.closedL,AV.closedL,AV.closedL,kl,closed_fnI _ kcl];rfl) ?_
 refine Aq ?_
 exact fV
theorem P_branch0 (l:List Br) (b:Br) (h0:l[0]? = some b) (hs:b.cond.Sm) (hl:l.length<1000000):PCall EE 58 [.isl 11 (zy Br.enc l),int 0] (int (brE l 0 b)):=by
 have kl:=Br.closedI l
 have hll:=zp Br.enc l
 have pe:=wi b.cond Ex0 hs
 have hE0:Ex0.enc=.agg [int 0,.isl 8 [],int 0,int 0,int 0,int 0,int 0,str ⟨#[]⟩]:=by rw [Ex0,Ex.enc_mk,zu];rfl
 have hat:(zy Br.enc l).getD 0 .undef=b.enc:=by rw [zu];simp [List.getD_eq_getElem?_getD,List.getElem?_map,h0]
 have hpos:0<l.length:=(List.getElem?_eq_some_iff.1 h0).1
 have kc:=Ex.closed b.cond
 have kb:=b.closed
 obtain ⟨R,hR⟩:∃ R,R=brE l 0 b:=⟨_,rfl⟩
 rw [← hR]
 unfold brE at hR
 rw [if_pos rfl] at hR
 generalize eqB b.cond Ex0=b3 at *
 generalize zy Br.enc l=es at *
 obtain ⟨co,ec,cv,cf,ck,xk,xn,xt,he,hec⟩:=b.form
 rw [he] at hat kb
 rw [hec,hE0] at pe
 rw [hec] at kc
 generalize zy Tl.enc b.queries=qq at *
 refine zo ?_;unhygienic intros
 have n1:iNe b.parent (-1) = !decide (b.parent = -1):=by simp only [ee];rw [Bool.eq_iff_iff];simp
 have n2:iNe b.ty 0 = !decide (b.ty=0):=by simp only [ee];rw [Bool.eq_iff_iff];simp
 have hel:atA es 0=.agg [int b.parent,int b.ty,int co,.isl 8 ec,int cv,int cf,int ck,int xk,int xn,str xt,.isl 4 qq]:=by simp only [ee];exact hat
 generalize decide (b.parent = -1)=b1 at *
 generalize decide (b.ty=0)=b2 at *
 have k00:iEq 0 0=true:=by simp only [ee];rfl
 have nt:bNot true=false:=by simp only [ee];rfl
 have nf:bNot false=true:=by simp only [ee];rfl
 have no:∀ b,bOr false b=b:=fun b=>by simp only [ee];cases b<;>rfl
 have no2:∀ b,bOr true b=true:=fun b=>by simp only [ee];cases b<;>rfl
 obtain ⟨u,hu⟩:∃ u,u = !(b1 && b2):=⟨_,rfl⟩
 have n12:bOr (!b1) (!b2)=u:=by simp only [ee];rw [hu];cases b1<;>rfl
 refine fB T58 [.t 4] ?_
 have fz:=And.intro hel k00
 refine Cq ?_
 have fz:=And.intro hel (And.intro k00 (And.intro n1 (And.intro n2 n12)))
 refine Cr ?_
 have fz:=And.intro n1 (And.intro n2 n12)
 refine Cq ?_
 cases u with
 | true =>
  have hR:R=3:=by rw [hR];revert hu;cases b1<;>cases b2<;>simp
  have fz:=And.intro nt (And.intro nf (And.intro no no2))
  refine Cq ?_
  refine goC 9 ?_
  refine yw rfl rfl rfl rfl ?_
  refine Cq ?_
  refine goC 9 ?_
  exact fI (h:=hR.symm)
 | false =>
 have hR:R=if b3=true then 0 else 3:=by rw [hR];revert hu;cases b1<;>cases b2<;>simp
 have fz:=And.intro nt (And.intro nf (And.intro no no2))
 refine Cq ?_
 refine goC 9 ?_
 refine xv (args:=[.agg [int co,.isl 8 ec,int cv,int cf,int ck,int xk,int xn,str xt],.agg [int 0,.val (.slice none 0 0),int 0,int 0,int 0,int 0,int 0,str ⟨#[]⟩]]) rfl rfl rfl rfl (pe.weak ⟨.refl _,.agg' ⟨.refl _,.nilI _,.refl _,.refl _,.refl _,.refl _,.refl _,.refl _,trivial⟩,trivial⟩) (by rw [AV.closedL,kc];rfl) ?_
 cases b3 with
 | true =>
  rw [if_pos rfl] at hR
  refine Cq ?_
  refine goC 9 ?_
  exact fI (h:=hR.symm)
 | false =>
  rw [if_neg (by decide)] at hR
  refine Cq ?_
  refine goC 9 ?_
  exact fI (h:=hR.symm)
theorem P_branch1 (l:List Br) (i:Nat) (b:Br) (hi:0<i) (hb:l[i]? = some b) (hs:∀ x∈l,x.cond.Sm) (hl:l.length<1000000) (hd:Dec l i):PCall EE 58 [.isl 11 (zy Br.enc l),int i] (int (brE l i b)):=by
 have kl:=Br.closedI l
 have hll:=zp Br.enc l
 have hil:=(List.getElem?_eq_some_iff.1 hb).1
 have pe:=vo b.cond (hs b (List.mem_of_getElem? hb))
 have pd:=fun (h:b.parent<i)=>P_depth l (i+1) (fun k x hk hx=>by
  by_cases hki:k=i
  · subst hki;rw [hb] at hx;cases hx;exact h
  exact hd k x (by omega) hx) (by omega) hl i (by omega)
 have pc:=P_child ((l.take i).drop 1) b (fun x hx=>hs x (List.mem_of_mem_take (List.mem_of_mem_drop hx))) (by rw [List.length_drop,List.length_take];omega)
 have hany:=uR (fun x=>wJ x b) ((l.take i).drop 1) 0 (by omega)
 have hat:(zy Br.enc l).getD i .undef=b.enc:=by rw [zu];simp [List.getD_eq_getElem?_getD,List.getElem?_map,hb]
 have hct:((zy Br.enc l).take i).drop 1=zy Br.enc ((l.take i).drop 1):=by rw [zu,zu,List.map_drop,List.map_take]
 have kct:=Br.closedI ((l.take i).drop 1)
 have kc:=Ex.closed b.cond
 have kb:=b.closed
 obtain ⟨R,hR⟩:∃ R,R=brE l i b:=⟨_,rfl⟩
 rw [← hR]
 unfold brE inN at hR
 rw [if_neg (by omega)] at hR
 obtain ⟨ii,hii⟩:∃ ii:Int,ii=i:=⟨_,rfl⟩
 generalize yP (fun x=>wJ x b) ((l.take i).drop 1) 0=v at *
 generalize hdp:(ups l i).length=dp at *
 rw [← hii] at hR pd ⊢
 generalize b.cond.chk=c0 at *
 generalize zy Br.enc ((l.take i).drop 1)=cl at *
 generalize zy Br.enc l=es at *
 obtain ⟨co,ec,cv,cf,ck,xk,xn,xt,he,hec⟩:=b.form
 rw [he] at hat kb pc
 rw [hec] at pe kc
 generalize zy Tl.enc b.queries=qq at *
 have kbs:AV.closedL [int b.parent,int b.ty,int co,.isl 8 ec,int cv,int cf,int ck,int xk,int xn,str xt,.isl 4 qq]=true:=by simpa only [AV.closed] using kb
 refine zo ?_;unhygienic intros
 have hel:atA es ii=.agg [int b.parent,int b.ty,int co,.isl 8 ec,int cv,int cf,int ck,int xk,int xn,str xt,.isl 4 qq]:=by simp only [ee];rw [hii];exact hat
 have hcut:cutA es 1 ii=cl:=by simp only [ee];rw [← hct,hii];rfl
 have hi0:iEq ii 0=false:=by simp only [ee];simp;omega
 obtain ⟨t1,ht1⟩:∃ t1,t1 = !((decide (0≤b.parent) && decide (b.parent<ii)) && (decide (0≤b.ty) && decide (b.ty<16))):=⟨_,rfl⟩
 have n1:bOr (bOr (bOr (iLt b.parent 0) (iLe ii b.parent)) (iLt b.ty 0)) (iLe 16 b.ty)=t1:=by
  simp only [ee];rw [ht1,Bool.eq_iff_iff];simp;omega
 refine fB T58 [.t 4] ?_
 have fz:=And.intro hel hi0
 refine Cq ?_
 have fz:=And.intro hel (And.intro hi0 n1)
 refine Cr ?_
 have fz:=n1
 refine Cq ?_
 cases t1 with
 | true =>
  have hc:((decide (0≤b.parent) && decide (b.parent<ii)) && (decide (0≤b.ty) && decide (b.ty<16)))=false:=by
   generalize ((decide (0≤b.parent) && decide (b.parent<ii)) && (decide (0≤b.ty) && decide (b.ty<16)))=z at ht1 ⊢
   revert ht1;cases z<;>decide
  rw [if_pos hc] at hR
  refine Aq ?_
  exact fI (h:=hR.symm)
 | false =>
 have hc:((decide (0≤b.parent) && decide (b.parent<ii)) && (decide (0≤b.ty) && decide (b.ty<16)))=true:=by
  generalize ((decide (0≤b.parent) && decide (b.parent<ii)) && (decide (0≤b.ty) && decide (b.ty<16)))=z at ht1 ⊢
  revert ht1;cases z<;>decide
 rw [if_neg (by rw [hc];decide)] at hR
 simp only [Bool.and_eq_true,decide_eq_true_eq] at hc
 have pd:=pd (by omega)
 refine Aq ?_
 refine zh (args:=[.agg [int co,.isl 8 ec,int cv,int cf,int ck,int xk,int xn,str xt]]) rfl rfl rfl pe (zg kc) ?_
 by_cases hk0:c0=0
 rotate_left
 · have k5:iNe c0 0=true:=by simp only [ee];simp [hk0]
   rw [vS _ hk0] at hR
   have fz:=k5
   refine Cq ?_
   refine goC 60 ?_
   exact fI (h:=hR.symm)
 have k5:iNe c0 0=false:=by simp only [ee];simp [hk0]
 rw [hk0,we] at hR
 have fz:=k5
 refine Cq ?_
 refine goC 60 ?_
 obtain ⟨dpi,hdpi⟩:∃ z:Int,z=dp:=⟨_,rfl⟩
 rw [← hdpi] at pd
 refine zh (args:=[.isl 11 es,int ii]) rfl rfl rfl pd (by rw [AV.closedL,kl];rfl) ?_
 by_cases h16:16<dp
 · have k6:iLt 16 dpi=true:=by simp only [ee];simp;omega
   rw [if_pos h16] at hR
   have fz:=k6
   refine Cq ?_
   refine goC 60 ?_
   exact fI (h:=hR.symm)
 have k6:iLt 16 dpi=false:=by simp only [ee];simp;omega
 rw [if_neg h16] at hR
 generalize (((l.take i).drop 1).any fun x=>wJ x b)=an at *
 have k7:iLe 0 v=an:=by simp only [ee];rw [Bool.eq_iff_iff];simp [hany]
 have fz:=k6
 refine Cq ?_
 refine Cr ?_
 refine zX rfl (by conv=>lhs;cbv) rfl ?_
 have fz:=hcut
 refine tgC ?_
 refine xL (args:=[.isl 11 cl,.agg [int b.parent,int b.ty,int co,.isl 8 ec,int cv,int cf,int ck,int xk,int xn,str xt,.isl 4 qq]]) rfl rfl rfl pc (by rw [AV.closedL,AV.closedL,AV.closedL,kct,kb];rfl) ?_
 have fz:=k7
 refine tgC ?_
 refine zK ⟨rfl,?_,?_⟩
 · simp only [zJ,zd,List.cons_append,List.nil_append,List.append_nil];and_intros<;>first | trivial | (intro hp;first | rfl | exact absurd (show false=true from hp) Bool.false_ne_true)
 cases an with
 | true =>
  rw [if_pos rfl] at hR
  refine Aq ?_
  exact fI (h:=hR.symm)
 | false =>
  rw [if_neg (by decide)] at hR
  refine Aq ?_
  exact fI (h:=hR.symm)
theorem xK (l:List Bool):AV.closedL (zy bool l)=true:=by
 have:(AV.isl 1 (zy bool l)).closed=true:=yU (fun b=>rfl) l
 simpa only [AV.closed] using this
def tlBad (rest:List Au) (t:Tl):Bool:=if t.whole then decide (t.state≠0) else !inN t.state ((rest[t.query.toNat]?.map fun a=>a.states.length).getD 0)
theorem tlE_eq (rest:List Au) (d:Nat) (seen:List Bool) (t:Tl):tlE rest d seen t=if inN t.query rest.length=false then 2 else if seen.getD t.query.toNat false=true then 7 else if eqB t.vars (upto d)=false then 14 else if tlBad rest t=true then 21 else 0:=rfl
theorem enters_prefix_tails : xu EE.P 59:=enters_of rfl (by decide) T59.2
theorem C_tails (nt:Nt) (i:Nat) (b:Br) (hb:nt.brs[i]? = some b) (seen:List Bool) (k:Nat) (hk:k=seen.length) (hsn:seen.length=nt.rest.length) (_hr:nt.rest.length<1000000) (hbl:nt.brs.length<1000000) (hd:Dec nt.brs (i+1)) (hq:b.queries.length<1000000) (hv:∀ t∈b.queries,t.vars.length<1000000) (hup:(ups nt.brs i).length<1000000) :
 ACall EE 59 [nt.enc,int i,.sl 0 1 0 k] [.arr 1 (zy bool seen)] fun v H'=>v=int (ti nt.rest (ups nt.brs i).length seen b.queries).1∧H'=[.arr 1 (zy bool (ti nt.rest (ups nt.brs i).length seen b.queries).2)]:=by
 have kn:=nt.closed
 have hil:=(List.getElem?_eq_some_iff.1 hb).1
 have pd:=P_depth nt.brs (i+1) hd (by omega) hbl i (by omega)
 have pf:=P_firsts (ups nt.brs i).length hup
 have kbr:=Br.closedI nt.brs
 have hbrl:=zp Br.enc nt.brs
 have hrl:=zp Au.enc nt.rest
 have hat:(zy Br.enc nt.brs).getD i .undef=b.enc:=by rw [zu];simp [List.getD_eq_getElem?_getD,List.getElem?_map,hb]
 have har:∀ (v:Int) (a:Au),nt.rest[v.toNat]? = some a→(zy Au.enc nt.rest).getD v.toNat .undef=a.enc:=fun v a ha=>by rw [zu];simp [List.getD_eq_getElem?_getD,List.getElem?_map,ha]
 have kq:=Tl.closedI b.queries
 have hql:=zp Tl.enc b.queries
 generalize hdp:(ups nt.brs i).length=dp at *
 have kus:=zQ (upto dp)
 have pe:=fun t (ht:t∈b.queries)=>P_EqualI t.vars (upto dp) (by have:=hv t ht;omega)
 rw [Nt.enc_eq] at kn ⊢
 generalize zy int (upto dp)=us at *
 generalize hrest:nt.rest=rest at *
 generalize zy Br.enc nt.brs=bs at *
 generalize zy Au.enc rest=ra at *
 obtain ⟨ii,hii⟩:∃ ii:Int,ii=i:=⟨_,rfl⟩
 rw [← hii] at pd ⊢
 obtain ⟨dpi,hdpi⟩:∃ z:Int,z=dp:=⟨_,rfl⟩
 rw [← hdpi] at pd pf
 obtain ⟨co,ec,cv,cf,ck,xk,xn,xt,he,hec⟩:=b.form
 rw [he] at hat
 generalize hts:b.queries=ts at *
 generalize hqs:zy Tl.enc ts=qs at *
 have kns:AV.closedL [.isl 11 bs,.isl 4 ra]=true:=by simpa only [AV.closed] using kn
 have kse:=xK seen
 refine zo ?_;unhygienic intros
 have hel:atA bs ii=.agg [int b.parent,int b.ty,int co,.isl 8 ec,int cv,int cf,int ck,int xk,int xn,str xt,.isl 4 qs]:=by simp only [ee];rw [hii];exact hat
 have nt0:bNot true=false:=by simp only [ee];rfl
 have nf:bNot false=true:=by simp only [ee];rfl
 have no:∀ b,bOr false b=b:=fun b=>by simp only [ee];cases b<;>rfl
 have no2:∀ b,bOr true b=true:=fun b=>by simp only [ee];cases b<;>rfl
 obtain ⟨sl,hsl⟩:∃ sl,sl=zy bool seen:=⟨_,rfl⟩
 rw [← hsl]
 rw [← hsl] at kse
 refine rB T59 [.t 6] ?_
 refine Aq ?_
 refine zh (args:=[.isl 11 bs,int ii]) rfl rfl rfl pd (by rw [AV.closedL,kbr];rfl) ?_
 refine Aq ?_
 refine oPA pf ?_
 have fz:=hel
 refine Cq ?_
 refine Cq ?_
 refine ze (ι:=List Tl × List Tl × Int × List Bool) (fun p=>([(22,int p.2.2.1),(21,int (lenA qs)),(20,.isl 4 qs),(7,.isl 1 us),(3,.ptr 1 0),(2,.sl 0 1 0 k)],[.arr 1 (zy bool p.2.2.2),.cells [.isl 11 bs,.isl 4 ra]])) (fun p=>ts=p.1++p.2.1∧p.2.2.1=p.1.length∧ti rest dp seen ts=ti rest dp p.2.2.2 p.2.1∧p.2.2.2.length=k) (fun p=>p.2.1.length) ([],ts,0,seen) ⟨rfl,rfl,rfl,hk.symm⟩ ?_ ?_
 · dsimp only
   rw [← hsl]
   exact yz ⟨.refl _,.refl _,.refl _,.refl _,.refl _,.refl _,trivial⟩
 rintro ⟨d,r,j,s⟩ ⟨g1,gj,gv,gs⟩
 dsimp only at g1 gj gv gs ⊢
 have g3:ts.length=d.length+r.length:=by rw [g1,List.length_append]
 have ksl:=xK s
 have hss:=zp bool s
 cases r with
 | nil =>
  simp only [List.length_nil,Nat.add_zero] at g3
  have hc:iLt j (lenA qs)=false:=xR e_iLt e_lenA (by omega)
  rw [ti] at gv
  rw [gv]
  dsimp only
  generalize zy bool s=sa at *
  have fz:=hc
  refine Cq ?_
  refine Aq ?_
  refine zk ?_
  refine Aq ?_
  refine wo (F2:=[(6,int 0)]) (H2:=[.arr 1 sa]) (xJ (H:=[.arr 1 sa]) [] (KpA.mem ⟨.arr ksl,trivial⟩) trivial ?_ (by simp)) rfl ⟨rfl,rfl⟩
  exact ⟨.refl _,trivial⟩
 | cons t r =>
  rw [List.length_cons] at g3
  have hc:iLt j (lenA qs)=true:=xU e_iLt e_lenA (by omega)
  have hat2:=yX e_atA hqs g1 gj
  have htm:t∈ts:=by rw [g1];simp
  have pe2:=pe t htm
  have kt:=t.closed
  have ktv:=zQ t.vars
  have hi2:iAdd .i64 j 1=((d++[t]).length:Int):=by rw [List.length_append];exact yh e_iAdd gj (by omega)
  rw [ti,tlE_eq] at gv
  rw [Tl.enc_eq] at hat2 kt
  have kts:AV.closedL [int t.query,.isl 1 (zy int t.vars),bool t.whole,int t.state]=true:=by simpa only [AV.closed] using kt
  generalize zy int t.vars=tv at *
  generalize eqB t.vars (upto dp)=b3 at *
  obtain ⟨sa,hsa⟩:∃ sa,sa=zy bool s:=⟨_,rfl⟩
  rw [← hsa]
  rw [← hsa] at ksl hss
  obtain ⟨bad,htb⟩:∃ b,b=tlBad rest t:=⟨_,rfl⟩
  rw [← htb] at gv
  unfold tlBad at htb
  generalize t.query=tq at *
  generalize t.state=tst at *
  generalize t.whole=tw at *
  obtain ⟨t1,ht1⟩:∃ t1,t1 = !inN tq rest.length:=⟨_,rfl⟩
  have hti:inN tq rest.length = !t1:=by rw [ht1];simp
  have n1:bOr (iLt tq 0) (iLe (lenA ra) tq)=t1:=by
   simp only [ee];rw [ht1,hrl,Bool.eq_iff_iff];simp [inN]
  rw [hti] at gv
  have fz:=And.intro hc hat2
  refine Cq ?_
  have fz:=And.intro hc (And.intro hat2 n1)
  refine Cr ?_
  have fz:=And.intro hat2 n1
  refine Cq ?_
  cases t1 with
  | true =>
   rw [if_pos (show ¬ ((if (!true)=false then (2:Int) else _)=0) by simp)] at gv
   refine Aq ?_
   refine zf ?_
   refine Aq ?_
   refine wo (F2:=[(6,int 2)]) (H2:=[.arr 1 sa]) (xJ (H:=[.arr 1 sa]) [] (KpA.mem ⟨.arr ksl,trivial⟩) trivial ?_ (by simp)) rfl ?_
   · exact ⟨.refl _,trivial⟩
   rw [gv,hsa]
   exact ⟨rfl,rfl⟩
  | false =>
  have hin:inN tq rest.length=true:=by rw [hti];rfl
  simp only [inN,Bool.and_eq_true,decide_eq_true_eq] at hin
  have hqs2:tq.toNat<s.length:=by omega
  obtain ⟨sb,hsb0⟩:∃ sb,sb=s.getD tq.toNat false:=⟨_,rfl⟩
  have hsb:atN sa (idxN 0 tq)=bool sb:=by
   simp only [ee]
   rw [hsa,hsb0,zu]
   simp [List.getD_eq_getElem?_getD,List.getElem?_map,List.getElem?_eq_getElem hqs2]
  rw [← hsb0] at gv
  rw [if_neg (show ¬ ((!false)=false) by decide)] at gv
  have fz:=hsb
  refine Cr ?_
  refine Cq ?_
  cases sb with
  | true =>
   rw [if_pos (show ¬ ((if true=true then (7:Int) else _)=0) by simp)] at gv
   refine Aq ?_
   refine zf ?_
   refine Aq ?_
   refine wo (F2:=[(6,int 7)]) (H2:=[.arr 1 sa]) (xJ (H:=[.arr 1 sa]) [] (KpA.mem ⟨.arr ksl,trivial⟩) trivial ?_ (by simp)) rfl ?_
   · exact ⟨.refl _,trivial⟩
   rw [gv,hsa]
   exact ⟨rfl,rfl⟩
  | false =>
  rw [if_neg (show ¬ (false=true) by decide)] at gv
  refine Aq ?_
  refine zh (args:=[.isl 1 tv,.isl 1 us]) rfl rfl rfl pe2 (by rw [AV.closedL,AV.closedL,AV.closedL,ktv,kus];rfl) ?_
  cases b3 with
  | false =>
   rw [if_pos (show ¬ ((if false=false then (14:Int) else _)=0) by simp)] at gv
   have fz:=And.intro nt0 (And.intro nf (And.intro no no2))
   refine Cq ?_
   refine goC 60 ?_
   refine zf ?_
   refine Aq ?_
   refine wo (F2:=[(6,int 14)]) (H2:=[.arr 1 sa]) (xJ (H:=[.arr 1 sa]) [] (KpA.mem ⟨.arr ksl,trivial⟩) trivial ?_ (by simp)) rfl ?_
   · exact ⟨.refl _,trivial⟩
   rw [gv,hsa]
   exact ⟨rfl,rfl⟩
  | true =>
  rw [if_neg (show ¬ (true=false) by decide)] at gv
  have fz:=And.intro nt0 (And.intro nf (And.intro no no2))
  refine Cq ?_
  refine Cr ?_
  cases tw with
  | true =>
   rw [if_pos rfl] at htb
   have n5:iNe tst 0=bad:=by simp only [ee];rw [htb,Bool.eq_iff_iff];simp
   refine zX rfl (by conv=>lhs;cbv) rfl ?_
   refine tgA ?_
   refine zn rfl ?_
   have fz:=n5
   refine tgC ?_
   refine zn rfl ?_
   refine tgC ?_
   refine zn rfl ?_
   refine tgC ?_
   cases bad with
   | true =>
    refine zq (by first | exact .inl rfl | exact .inr ⟨_,_,rfl,rfl⟩) ?_
    refine zq (by first | exact .inl rfl | exact .inr ⟨_,_,rfl,rfl⟩) ?_
    refine zq (by first | exact .inl rfl | exact .inr ⟨_,_,rfl,rfl⟩) ?_
    refine zq (by first | exact .inl rfl | exact .inr ⟨_,_,rfl,rfl⟩) ?_
    refine zq (by first | exact .inl rfl | exact .inr ⟨_,_,rfl,rfl⟩) ?_
    refine zq (by first | exact .inl rfl | exact .inr ⟨_,_,rfl,rfl⟩) ?_
    refine zq (by first | exact .inl rfl | exact .inr ⟨_,_,rfl,rfl⟩) ?_
    refine zq (by first | exact .inl rfl | exact .inr ⟨_,_,rfl,rfl⟩) ?_
    refine zq (by first | exact .inl rfl | exact .inr ⟨_,_,rfl,rfl⟩) ?_
    refine zq (by first | exact .inl rfl | exact .inr ⟨_,_,rfl,rfl⟩) ?_
    refine zq (by first | exact .inl rfl | exact .inr ⟨_,_,rfl,rfl⟩) ?_
    refine zq (by first | exact .inl rfl | exact .inr ⟨_,_,rfl,rfl⟩) ?_
    refine zq (by first | exact .inl rfl | exact .inr ⟨_,_,rfl,rfl⟩) ?_
    refine zq (by first | exact .inl rfl | exact .inr ⟨_,_,rfl,rfl⟩) ?_
    refine zq (by first | exact .inl rfl | exact .inr ⟨_,_,rfl,rfl⟩) ?_
    refine zq (by first | exact .inl rfl | exact .inr ⟨_,_,rfl,rfl⟩) ?_
    refine zq (by first | exact .inl rfl | exact .inr ⟨_,_,rfl,rfl⟩) ?_
    refine zq (by first | exact .inl rfl | exact .inr ⟨_,_,rfl,rfl⟩) ?_
    refine zq (by first | exact .inl rfl | exact .inr ⟨_,_,rfl,rfl⟩) ?_
    refine zq (by first | exact .inl rfl | exact .inr ⟨_,_,rfl,rfl⟩) ?_
    refine zq (by first | exact .inl rfl | exact .inr ⟨_,_,rfl,rfl⟩) ?_
    have fz:=And.intro nt0 nf
    refine tgC ?_
    refine zK ⟨rfl,?_,?_⟩
    · simp only [zJ,zd,List.cons_append,List.nil_append,List.append_nil];and_intros<;>first | trivial | (intro hp;first | rfl | exact absurd (show false=true from hp) Bool.false_ne_true)
    rw [if_pos (show ¬ ((if true=true then (21:Int) else 0)=0) by simp)] at gv
    refine Aq ?_
    refine zf ?_
    refine Aq ?_
    refine wo (F2:=[(6,int 21)]) (H2:=[.arr 1 sa]) (xJ (H:=[.arr 1 sa]) [] (KpA.mem ⟨.arr ksl,trivial⟩) trivial ?_ (by simp)) rfl ?_
    · exact ⟨.refl _,trivial⟩
    rw [gv,hsa]
    exact ⟨rfl,rfl⟩
   | false =>
    refine zn rfl ?_
    have fz:=And.intro nt0 nf
    refine tgC ?_
    refine zn rfl ?_
    refine tgC ?_
    refine zn rfl ?_
    refine tgC ?_
    refine zn rfl ?_
    refine tgC ?_
    refine zq (by first | exact .inl rfl | exact .inr ⟨_,_,rfl,rfl⟩) ?_
    refine zq (by first | exact .inl rfl | exact .inr ⟨_,_,rfl,rfl⟩) ?_
    refine zq (by first | exact .inl rfl | exact .inr ⟨_,_,rfl,rfl⟩) ?_
    refine zq (by first | exact .inl rfl | exact .inr ⟨_,_,rfl,rfl⟩) ?_
    refine zq (by first | exact .inl rfl | exact .inr ⟨_,_,rfl,rfl⟩) ?_
    refine zq (by first | exact .inl rfl | exact .inr ⟨_,_,rfl,rfl⟩) ?_
    refine zq (by first | exact .inl rfl | exact .inr ⟨_,_,rfl,rfl⟩) ?_
    refine zq (by first | exact .inl rfl | exact .inr ⟨_,_,rfl,rfl⟩) ?_
    refine zq (by first | exact .inl rfl | exact .inr ⟨_,_,rfl,rfl⟩) ?_
    refine zq (by first | exact .inl rfl | exact .inr ⟨_,_,rfl,rfl⟩) ?_
    refine zq (by first | exact .inl rfl | exact .inr ⟨_,_,rfl,rfl⟩) ?_
    refine zq (by first | exact .inl rfl | exact .inr ⟨_,_,rfl,rfl⟩) ?_
    refine zq (by first | exact .inl rfl | exact .inr ⟨_,_,rfl,rfl⟩) ?_
    refine zq (by first | exact .inl rfl | exact .inr ⟨_,_,rfl,rfl⟩) ?_
    refine zq (by first | exact .inl rfl | exact .inr ⟨_,_,rfl,rfl⟩) ?_
    refine zq (by first | exact .inl rfl | exact .inr ⟨_,_,rfl,rfl⟩) ?_
    refine zn rfl ?_
    refine tgC ?_
    refine tgC ?_
    refine zK ⟨rfl,?_,?_⟩
    · simp only [zJ,zd,List.cons_append,List.nil_append,List.append_nil];and_intros<;>first | trivial | (intro hp;first | rfl | exact absurd (show false=true from hp) Bool.false_ne_true)
    rw [if_neg (show ¬ ¬ ((if false=true then (21:Int) else 0)=0) by simp)] at gv
    obtain ⟨sa2,hsa2⟩:∃ sa2,sa2=zy bool (s.set tq.toNat true):=⟨_,rfl⟩
    have f1:setA sa (idxN 0 tq) (bool true)=sa2:=by simp only [ee];rw [hsa,hsa2,zu,zu,List.map_set,Nat.zero_add]
    have ksa2:=xK (s.set tq.toNat true)
    rw [← hsa2] at ksa2
    have fz:=f1
    refine Cq ?_
    refine goC 9 ?_
    refine zm (d++[t],r,iAdd .i64 j 1,s.set tq.toNat true) ⟨by simp [g1],hi2,gv,by simp [gs]⟩ (by simp) ?_
    dsimp only
    rw [← hsa2]
    refine xJ (H:=[.arr 1 sa2,.cells [.isl 11 bs,.isl 4 ra]]) [] (KpA.mem ?_) trivial ?_ ?_
    · exact ⟨.arr ksa2,.cells (.cl kns),trivial⟩
    · exact ⟨.refl _,.refl _,.cl kq,.cl kus,.refl _,.refl _,trivial⟩
    simp
  | false =>
   rw [if_neg (by decide)] at htb
   obtain ⟨a,haq⟩:∃ a,rest[tq.toNat]? = some a:=⟨_,List.getElem?_eq_getElem (by omega)⟩
   have hra:atA ra tq=a.enc:=by simp only [ee];exact har tq a haq
   rw [haq] at htb
   simp only [Option.map_some,Option.getD_some,inN] at htb
   rw [Au.enc_eq] at hra
   have hal:=zp stE a.states
   obtain ⟨x1,hx1⟩:∃ x,x=decide (0≤tst):=⟨_,rfl⟩
   obtain ⟨x2,hx2⟩:∃ x,x=decide (tst<(a.states.length:Int)):=⟨_,rfl⟩
   have htb:bad = !(x1 && x2):=by rw [htb,hx1,hx2]
   generalize zy stE a.states=sts at *
   generalize zy Ed.enc a.edges=eds at *
   generalize a.vars=nV at *
   generalize a.scopes=nS at *
   have n5:iLt tst 0 = !x1:=by simp only [ee];rw [hx1,Bool.eq_iff_iff];simp
   have n6:iLe (lenA sts) tst = !x2:=by simp only [ee];rw [hal,hx2,Bool.eq_iff_iff];simp
   refine zX rfl (by conv=>lhs;cbv) rfl ?_
   refine tgA ?_
   refine zq (by first | exact .inl rfl | exact .inr ⟨_,_,rfl,rfl⟩) ?_
   refine zq (by first | exact .inl rfl | exact .inr ⟨_,_,rfl,rfl⟩) ?_
   refine zq (by first | exact .inl rfl | exact .inr ⟨_,_,rfl,rfl⟩) ?_
   refine tgA ?_
   refine zn rfl ?_
   have fz:=And.intro nt0 (And.intro nf n5)
   refine tgC ?_
   refine zn rfl ?_
   refine tgC ?_
   refine zn rfl ?_
   refine tgC ?_
   refine zn rfl ?_
   refine tgC ?_
   refine zn rfl ?_
   refine tgC ?_
   refine zn rfl ?_
   refine tgC ?_
   refine zn rfl ?_
   refine tgC ?_
   refine zn rfl ?_
   refine tgC ?_
   cases x1 with
   | false =>
    have hbt:bad=true:=by rw [htb];simp
    rw [hbt] at gv
    refine zq (by first | exact .inl rfl | exact .inr ⟨_,_,rfl,rfl⟩) ?_
    refine zq (by first | exact .inl rfl | exact .inr ⟨_,_,rfl,rfl⟩) ?_
    refine zq (by first | exact .inl rfl | exact .inr ⟨_,_,rfl,rfl⟩) ?_
    refine zq (by first | exact .inl rfl | exact .inr ⟨_,_,rfl,rfl⟩) ?_
    refine zq (by first | exact .inl rfl | exact .inr ⟨_,_,rfl,rfl⟩) ?_
    refine zq (by first | exact .inl rfl | exact .inr ⟨_,_,rfl,rfl⟩) ?_
    refine zq (by first | exact .inl rfl | exact .inr ⟨_,_,rfl,rfl⟩) ?_
    refine zq (by first | exact .inl rfl | exact .inr ⟨_,_,rfl,rfl⟩) ?_
    refine zq (by first | exact .inl rfl | exact .inr ⟨_,_,rfl,rfl⟩) ?_
    refine zq (by first | exact .inl rfl | exact .inr ⟨_,_,rfl,rfl⟩) ?_
    refine zq (by first | exact .inl rfl | exact .inr ⟨_,_,rfl,rfl⟩) ?_
    refine zn rfl ?_
    have fz:=And.intro nt0 nf
    refine tgC ?_
    refine zn rfl ?_
    refine tgC ?_
    refine tgC ?_
    refine zK ⟨rfl,?_,?_⟩
    · simp only [zJ,zd,List.cons_append,List.nil_append,List.append_nil];and_intros<;>first | trivial | (intro hp;first | rfl | exact absurd (show false=true from hp) Bool.false_ne_true)
    rw [if_pos (show ¬ ((if true=true then (21:Int) else 0)=0) by simp)] at gv
    refine Aq ?_
    refine zf ?_
    refine Aq ?_
    refine wo (F2:=[(6,int 21)]) (H2:=[.arr 1 sa]) (xJ (H:=[.arr 1 sa]) [] (KpA.mem ⟨.arr ksl,trivial⟩) trivial ?_ (by simp)) rfl ?_
    · exact ⟨.refl _,trivial⟩
    rw [gv,hsa]
    exact ⟨rfl,rfl⟩
   | true =>
    have hbt:bad = !x2:=by rw [htb];simp
    refine zn rfl ?_
    have fz:=And.intro nt0 (And.intro nf (And.intro hra n6))
    refine tgC ?_
    refine zn rfl ?_
    refine tgC ?_
    refine zn rfl ?_
    refine tgC ?_
    refine zn rfl ?_
    refine tgC ?_
    refine zn rfl ?_
    refine tgC ?_
    refine zn rfl ?_
    refine tgC ?_
    refine zn rfl ?_
    refine tgC ?_
    refine zn rfl ?_
    refine tgC ?_
    refine zn rfl ?_
    refine tgC ?_
    refine zn rfl ?_
    refine tgC ?_
    refine zn rfl ?_
    refine tgC ?_
    cases x2 with
    | false =>
     have hbt2:bad=true:=by rw [hbt];rfl
     rw [hbt2] at gv
     refine zn rfl ?_
     have fz:=And.intro nt0 nf
     refine tgC ?_
     refine zn rfl ?_
     refine tgC ?_
     refine tgC ?_
     refine zK ⟨rfl,?_,?_⟩
     · simp only [zJ,zd,List.cons_append,List.nil_append,List.append_nil];and_intros<;>first | trivial | (intro hp;first | rfl | exact absurd (show false=true from hp) Bool.false_ne_true)
     rw [if_pos (show ¬ ((if true=true then (21:Int) else 0)=0) by simp)] at gv
     refine Aq ?_
     refine zf ?_
     refine Aq ?_
     refine wo (F2:=[(6,int 21)]) (H2:=[.arr 1 sa]) (xJ (H:=[.arr 1 sa]) [] (KpA.mem ⟨.arr ksl,trivial⟩) trivial ?_ (by simp)) rfl ?_
     · exact ⟨.refl _,trivial⟩
     rw [gv,hsa]
     exact ⟨rfl,rfl⟩
    | true =>
     have hbt2:bad=false:=by rw [hbt];rfl
     rw [hbt2] at gv
     refine zn rfl ?_
     have fz:=And.intro nt0 nf
     refine tgC ?_
     refine zn rfl ?_
     refine tgC ?_
     refine tgC ?_
     refine zK ⟨rfl,?_,?_⟩
     · simp only [zJ,zd,List.cons_append,List.nil_append,List.append_nil];and_intros<;>first | trivial | (intro hp;first | rfl | exact absurd (show false=true from hp) Bool.false_ne_true)
     rw [if_neg (show ¬ ¬ ((if false=true then (21:Int) else 0)=0) by simp)] at gv
     obtain ⟨sa2,hsa2⟩:∃ sa2,sa2=zy bool (s.set tq.toNat true):=⟨_,rfl⟩
     have f1:setA sa (idxN 0 tq) (bool true)=sa2:=by simp only [ee];rw [hsa,hsa2,zu,zu,List.map_set,Nat.zero_add]
     have ksa2:=xK (s.set tq.toNat true)
     rw [← hsa2] at ksa2
     have fz:=f1
     refine Cq ?_
     refine goC 9 ?_
     refine zm (d++[t],r,iAdd .i64 j 1,s.set tq.toNat true) ⟨by simp [g1],hi2,gv,by simp [gs]⟩ (by simp) ?_
     dsimp only
     rw [← hsa2]
     refine xJ (H:=[.arr 1 sa2,.cells [.isl 11 bs,.isl 4 ra]]) [] (KpA.mem ?_) trivial ?_ ?_
     · exact ⟨.arr ksa2,.cells (.cl kns),trivial⟩
     · exact ⟨.refl _,.refl _,.cl kq,.cl kus,.refl _,.refl _,trivial⟩
     simp
theorem closedI_bool (l:List Bool):(AV.isl 1 (zy bool l)).closed=true:=yU (fun _b=>rfl) l
theorem P_IndexBl (l:List Bool) (hl:l.length<1048577):PCall EE 105 [.isl 1 (zy bool l),bool false] (int (yP (fun q=>!q) l 0)):=by
 obtain ⟨j,hj⟩:∃ j,j=yP (fun q=>!q) l 0:=⟨_,rfl⟩
 rw [← hj]
 have hcl:=closedI_bool l
 refine zo ?_;unhygienic intros
 generalize hes:zy bool l=es at *
 have hel:es.length=l.length:=by rw [← hes,zp]
 refine fB T105 [.t 4] ?_
 refine Aq ?_
 refine ze (ι:=List Bool × List Bool × Int) (fun p=>([(8,int p.2.2),(7,int (lenA es)),(0,.isl 1 es),(1,bool false)],[])) (fun p=>l=p.1++p.2.1∧p.2.2=p.1.length∧j=yP (fun q=>!q) p.2.1 p.2.2) (fun p=>p.2.1.length) ([],l,0) ⟨rfl,rfl,hj⟩ ?_ ?_
 · exact (eS [] [])
 rintro ⟨d,r,i⟩ ⟨g1,gi,gv⟩
 dsimp only at g1 gi gv ⊢
 cases r with
 | nil =>
  have L1:=lS g1
  have hc:iLt i (lenA es)=false:=xR e_iLt e_lenA (by omega)
  rw [yP] at gv
  have fz:=hc
  refine Cq ?_
  refine Aq ?_
  refine zk ?_
  refine Aq ?_
  exact fI (h:=gv.symm)
 | cons q r =>
  have L1:=lS g1
  have hc:iLt i (lenA es)=true:=xU e_iLt e_lenA (by omega)
  have hat:=yX e_atA hes g1 gi
  have hi2:iAdd .i64 i 1=((d++[q]).length:Int):=by rw [List.length_append];exact yh e_iAdd gi (by omega)
  rw [yP] at gv
  cases q with
  | false =>
   rw [if_pos (by decide)] at gv
   have k1:bEq false false=true:=by simp only [ee];rfl
   have fz:=And.intro hc hat
   refine Cq ?_
   have fz:=And.intro hc (And.intro hat k1)
   refine Cr ?_
   have fz:=k1
   refine goC 60 ?_
   refine zf ?_
   refine Aq ?_
   exact fI (h:=gv.symm)
  | true =>
   rw [if_neg (by decide)] at gv
   have gv2:j=yP (fun q=>!q) r (iAdd .i64 i 1):=by rw [gv,hi2,gi];simp
   have k1:bEq false true=false:=by simp only [ee];rfl
   have fz:=And.intro hc hat
   refine Cq ?_
   have fz:=And.intro hc (And.intro hat k1)
   refine Cr ?_
   have fz:=k1
   refine goC 60 ?_
   refine zm (d++[true],r,iAdd .i64 i 1) ⟨by simp [g1],hi2,gv2⟩ (by simp) (eS [] [])
theorem P_ContainsBl (l:List Bool) (hl:l.length<1048577):PCall EE 60 [.isl 1 (zy bool l),bool false] (bool (!l.all id)):=by
 have h1:=P_IndexBl l hl
 have hj:=uR (fun q=>!q) l 0 (by omega)
 generalize yP (fun q=>!q) l 0=j at *
 have hcl:=closedI_bool l
 obtain ⟨R,hR⟩:∃ R,R = !l.all id:=⟨_,rfl⟩
 have hR2:l.any (fun q=>!q)=R:=by rw [hR,List.not_all_eq_any_not];rfl
 rw [← hR]
 rw [hR2] at hj
 refine zo ?_;unhygienic intros
 generalize zy bool l=es at *
 refine fB T60 [.t 4] ?_
 have hRe:iLe 0 j=R:=by simp only [ee];rw [Bool.eq_iff_iff];simp [hj]
 refine Aq ?_
 refine oPA h1 ?_
 refine Aq ?_
 exact fBo (h:=hRe)
structure Nt.Ok (n:Nt):Prop where
 rs:n.rest.length<1000000
 ra:∀ a∈n.rest,a.Ok
 bs:n.brs.length<1000000
 cs:∀ b∈n.brs,b.cond.Sm
 qs:∀ b∈n.brs,b.queries.length<1000000
 vs:∀ b∈n.brs,∀ t∈b.queries,t.vars.length<1000000
theorem brE_dec {l:List Br} {i:Nat} {b:Br} (hb:l[i]? = some b) (h:brE l i b=0) (hd:Dec l i):Dec l (i+1):=by
 intro k x hk hx
 by_cases hki:k=i
 · subst hki
   rw [hb] at hx;cases hx
   unfold brE at h
   by_cases h0:k=0
   · rw [if_pos h0] at h
     split at h
     · rename_i hc
       simp only [Bool.and_eq_true,decide_eq_true_eq] at hc
       omega
     cases h
   rw [if_neg h0] at h
   split at h
   · cases h
   rename_i hc
   simp only [inN,Bool.and_eq_false_iff,decide_eq_false_iff_not,not_or,Decidable.not_not] at hc
   omega
 exact hd k x (by omega) hx
theorem P_branch (l:List Br) (i:Nat) (b:Br) (hb:l[i]? = some b) (hs:∀ x∈l,x.cond.Sm) (hl:l.length<1000000) (hd:Dec l i):PCall EE 58 [.isl 11 (zy Br.enc l),int i] (int (brE l i b)):=by
 cases i with
 | zero=>exact P_branch0 l b hb (hs b (List.mem_of_getElem? hb)) hl
 | succ i=>exact P_branch1 l (i+1) b (Nat.succ_pos _) hb hs hl hd
theorem tlsE_len (rest:List Au) (d:Nat):∀ (ts:List Tl) (s:List Bool),(ti rest d s ts).2.length=s.length
 | [],s=>rfl
 | t :: r,s=>by
  rw [ti]
  split
  · rfl
  rw [tlsE_len rest d r];simp
theorem P_nCheck (nt:Nt) (hn:nt.Ok):PCall EE 22 [nt.enc] (int nt.chk):=by
 have kn:=nt.closed
 have pa:=fun a (ha:a∈nt.rest)=>P_aCheck a (hn.ra a ha)
 have pb:=fun i b (hb:nt.brs[i]? = some b) (hd:Dec nt.brs i)=>P_branch nt.brs i b hb hn.cs hn.bs hd
 have pt:=fun i b (hb:nt.brs[i]? = some b) (hd:Dec nt.brs (i+1)) (s:List Bool) (hs:s.length=nt.rest.length) =>
  C_tails nt i b hb s s.length rfl hs hn.rs hn.bs hd (hn.qs b (List.mem_of_getElem? hb)) (hn.vs b (List.mem_of_getElem? hb)) (by
   have h1:=(List.getElem?_eq_some_iff.1 hb).1
   have h2:=ups_len hd (by omega) i i (by omega) (by simp)
   have:=hn.bs
   omega)
 have pc:=P_ContainsBl
 have hbl:=zp Br.enc nt.brs
 have hrl:=zp Au.enc nt.rest
 have kb:=Br.closedI nt.brs
 have kr:=Au.closedI nt.rest
 have hr1:=hn.rs
 have hb1:=hn.bs
 have hec:=nt.enc_eq
 obtain ⟨R,hR⟩:∃ R,R=nt.chk:=⟨_,rfl⟩
 rw [← hR]
 unfold Nt.chk at hR
 rw [hec] at kn pt ⊢
 generalize hes2:zy Au.enc nt.rest=ra at *
 generalize hes1:zy Br.enc nt.brs=bs at *
 have kns:AV.closedL [.isl 11 bs,.isl 4 ra]=true:=by simpa only [AV.closed] using kn
 refine zo ?_;unhygienic intros
 obtain ⟨t1,ht1⟩:∃ t1,t1=decide (nt.brs.length<1∨256<nt.brs.length∨16<nt.rest.length):=⟨_,rfl⟩
 have n1:bOr (bOr (iLt (lenA bs) 1) (iLt 256 (lenA bs))) (iLt 16 (lenA ra))=t1:=by
  simp only [ee];rw [ht1,Bool.eq_iff_iff];simp only [Bool.or_eq_true,decide_eq_true_eq];omega
 refine fB T22 [.t 2] ?_
 have fz:=n1
 refine Cq ?_
 cases t1 with
 | true =>
  rw [if_pos (of_decide_eq_true ht1.symm)] at hR
  refine Aq ?_
  exact fI (h:=hR.symm)
 | false =>
 rw [if_neg (of_decide_eq_false ht1.symm)] at hR
 refine Aq ?_
 refine ze (ι:=List Au × List Au × Int) (fun p=>([(29,int p.2.2),(28,int (lenA ra)),(27,.isl 4 ra),(1,.ptr 0 0)],[.cells [.isl 11 bs,.isl 4 ra]])) (fun p=>nt.rest=p.1++p.2.1∧p.2.2=p.1.length∧R=orE (zU Au.chk p.2.1) (t5 nt 0 (List.replicate nt.rest.length false) nt.brs)) (fun p=>p.2.1.length) ([],nt.rest,0) ⟨rfl,rfl,hR⟩ ?_ ?_
 · exact yz ⟨.refl _,.refl _,.refl _,.refl _,trivial⟩
 rintro ⟨d,r,i⟩ ⟨g1,gi,gv⟩
 dsimp only at g1 gi gv ⊢
 have g3:nt.rest.length=d.length+r.length:=by rw [g1,List.length_append]
 cases r with
 | cons a r =>
  rw [List.length_cons] at g3
  have hc:iLt i (lenA ra)=true:=xU e_iLt e_lenA (by omega)
  have hat:=yX e_atA hes2 g1 gi
  have pa2:=pa a (by rw [g1];simp)
  have ka:=a.closed
  have hi2:iAdd .i64 i 1=((d++[a]).length:Int):=by rw [List.length_append];exact yh e_iAdd gi (by omega)
  rw [zU] at gv
  generalize a.chk=v at *
  rw [Au.enc_eq] at hat pa2 ka
  generalize zy stE a.states=sl at *
  generalize zy Ed.enc a.edges=el at *
  have fz:=And.intro hc hat
  refine Cq ?_
  refine Cr ?_
  have fz:=hat
  refine Cq ?_
  refine zh (args:=[.agg [int a.vars,int a.scopes,.isl 1 sl,.isl 17 el]]) rfl rfl rfl pa2 (zg ka) ?_
  by_cases hv0:v=0
  · have k6:iNe v 0=false:=by simp only [ee];simp [hv0]
    rw [if_neg (by simp [hv0])] at gv
    have fz:=k6
    refine Cq ?_
    refine goC 60 ?_
    refine zm (d++[a],r,iAdd .i64 i 1) ⟨by simp [g1],hi2,gv⟩ (by simp) ?_
    dsimp only
    refine xJ (H:=[.cells [.isl 11 bs,.isl 4 ra]]) [] (KpA.mem ?_) trivial ?_ ?_
    · exact ⟨.cells (.cl kns),trivial⟩
    · exact ⟨.refl _,.refl _,.cl kr,.refl _,trivial⟩
    simp
  have k6:iNe v 0=true:=by simp only [ee];simp [hv0]
  rw [if_pos hv0,vS _ hv0] at gv
  have fz:=k6
  refine Cq ?_
  refine goC 60 ?_
  refine zf ?_
  refine Aq ?_
  exact fI (h:=gv.symm)
 | nil =>
  simp only [List.length_nil,Nat.add_zero] at g3
  have hc:iLt i (lenA ra)=false:=xR e_iLt e_lenA (by omega)
  rw [zU,we] at gv
  obtain ⟨s0,hs0⟩:∃ s0,s0=zy bool (List.replicate nt.rest.length false):=⟨_,rfl⟩
  obtain ⟨rn,hrn⟩:∃ n,n=nt.rest.length:=⟨_,rfl⟩
  have f1:repA (lenA ra) (bool false)=s0:=by
   simp only [ee];rw [hs0,zu,hrl];simp
  have f2:natOf (lenA ra)=rn:=by simp only [ee];rw [hrl,hrn];simp
  have ks0:=xK (List.replicate nt.rest.length false)
  rw [← hs0] at ks0
  rw [← hrn] at gv hr1
  have fz:=hc
  refine Cq ?_
  refine Aq ?_
  refine zk ?_
  have fz:=And.intro f1 f2
  refine goC 60 ?_
  refine ze (ι:=List Br × List Br × Int × List Bool) (fun p=>([(46,int p.2.2.1),(45,int (lenA bs)),(44,.isl 11 bs),(6,.sl 1 1 0 rn),(1,.ptr 0 0)],[.cells [.isl 11 bs,.isl 4 ra],.arr 1 (zy bool p.2.2.2)])) (fun p=>nt.brs=p.1++p.2.1∧p.2.2.1=p.1.length∧R=t5 nt p.1.length p.2.2.2 p.2.1∧p.2.2.2.length=rn∧Dec nt.brs p.1.length) (fun p=>p.2.1.length) ([],nt.brs,0,List.replicate rn false) ⟨rfl,rfl,gv,by simp,fun i x hi=>absurd hi (Nat.not_lt_zero _)⟩ ?_ ?_
  · dsimp only
    rw [hrn,← hs0]
    exact yz ⟨.refl _,.refl _,.refl _,.refl _,.refl _,trivial⟩
  rintro ⟨d2,r2,k,s⟩ ⟨h1,hk,hv,hsl,hD⟩
  dsimp only at h1 hk hv hsl hD ⊢
  have h3:nt.brs.length=d2.length+r2.length:=by rw [h1,List.length_append]
  have ksl:=xK s
  have kss:=closedI_bool s
  have hss:=zp bool s
  cases r2 with
  | nil =>
   simp only [List.length_nil,Nat.add_zero] at h3
   have hc2:iLt k (lenA bs)=false:=xR e_iLt e_lenA (by omega)
   have pc2:=pc s (by omega)
   rw [t5] at hv
   obtain ⟨sa,hsa⟩:∃ sa,sa=zy bool s:=⟨_,rfl⟩
   rw [← hsa] at ksl kss hss pc2 ⊢
   generalize s.all id=al at *
   have fz:=hc2
   refine Cq ?_
   refine Aq ?_
   refine zk ?_
   refine Aq ?_
   refine vT rfl rfl pc2 rfl ⟨[.gone,.isl 1 sa],⟨trivial,⟨_,rfl,(zw _ ksl).symm⟩,trivial⟩,⟨.of (xm rfl (by omega)),.refl _,trivial⟩⟩ ?_
   cases al with
   | true =>
    rw [if_pos rfl] at hv
    refine Aq ?_
    exact fI (h:=hv.symm)
   | false =>
    rw [if_neg (by decide)] at hv
    refine Aq ?_
    exact fI (h:=hv.symm)
  | cons b r2 =>
   rw [List.length_cons] at h3
   have hc2:iLt k (lenA bs)=true:=xU e_iLt e_lenA (by omega)
   have hbk:nt.brs[d2.length]? = some b:=by rw [h1];simp
   have pb2:=pb d2.length b hbk hD
   have hi3:iAdd .i64 k 1=((d2++[b]).length:Int):=by rw [List.length_append];exact yh e_iAdd hk (by omega)
   rw [← hk] at pb2
   rw [t5] at hv
   have hdec:=brE_dec hbk
   have pt2:=fun h=>pt d2.length b hbk (hdec h hD) s (by omega)
   rw [← hk] at pt2
   rw [hsl] at pt2
   have htl:=tlsE_len nt.rest (ups nt.brs d2.length).length b.queries s
   rw [← hk] at htl hv
   generalize brE nt.brs d2.length b=v at *
   generalize ti nt.rest (ups nt.brs k).length s b.queries=te at *
   obtain ⟨e,s2⟩:=te
   dsimp only at hv pt2 htl
   obtain ⟨sa,hsa⟩:∃ sa,sa=zy bool s:=⟨_,rfl⟩
   obtain ⟨sa2,hsa2⟩:∃ sa,sa=zy bool s2:=⟨_,rfl⟩
   have ksl2:=xK s2
   rw [← hsa] at ksl kss hss pt2 ⊢
   rw [← hsa2] at pt2 ksl2
   have fz:=hc2
   refine Cq ?_
   refine Cr ?_
   refine goB hX 0 (by conv=>lhs;cbv;try simp only [];cbv;try simp only [];cbv;try simp only [];cbv;try simp only [];cbv) ?_
   refine zh (args:=[.isl 11 bs,int k]) rfl rfl rfl pb2 (by rw [AV.closedL,kb];rfl) ?_
   by_cases hv0:v=0
   rotate_left
   · have k6:iNe v 0=true:=by simp only [ee];simp [hv0]
     rw [vS _ hv0] at hv
     have fz:=k6
     refine Cq ?_
     refine goC 60 ?_
     refine zf ?_
     refine Aq ?_
     exact fI (h:=hv.symm)
   have k6:iNe v 0=false:=by simp only [ee];simp [hv0]
   rw [hv0,we] at hv
   have hDn:=hdec hv0 hD
   have fz:=k6
   refine Cq ?_
   refine goC 60 ?_
   refine on_fcall [1] rfl rfl enters_prefix_tails (pt2 hv0) (by decide) (by simp) ?_ ?_ ?_
   · show _=[AObj.arr 1 (AV.subL _ sa)]
     rw [zw _ ksl]
   · show _=[AV.sub _ (AV.agg [.isl 11 bs,.isl 4 ra]),_,_]
     rw [xc _ _ _ (Nat.le_refl _) kn];rfl
   rintro v0 H1 ⟨rfl,rfl⟩ -
   have hmg:x8 [.cells [.isl 11 bs,.isl 4 ra],.arr 1 sa] [1] [.arr 1 sa2]=[.cells [.isl 11 bs,.isl 4 ra],.arr 1 sa2]:=by
    show [_,AObj.arr 1 (AV.subL _ sa2)]=_
    rw [zw _ ksl2];rfl
   rw [hmg]
   by_cases he0:e=0
   · have k7:iNe e 0=false:=by simp only [ee];simp [he0]
     rw [he0,we] at hv
     have fz:=k7
     refine Cq ?_
     refine goC 60 ?_
     refine zm (d2++[b],r2,iAdd .i64 k 1,s2) ⟨by simp [h1],hi3,by rw [hv];simp,by rw [htl,hsl],by simpa using hDn⟩ (by simp) ?_
     dsimp only
     rw [← hsa2]
     exact yz ⟨.refl _,.refl _,.refl _,.refl _,.refl _,trivial⟩
   have k7:iNe e 0=true:=by simp only [ee];simp [he0]
   rw [vS _ he0] at hv
   have fz:=k7
   refine Cq ?_
   refine goC 60 ?_
   refine zf ?_
   refine Aq ?_
   exact fI (h:=hv.symm)
theorem C_path5 (bl:List Br) (m:Nat) (hd:Dec bl m) (hm:m≤bl.length) (hb:bl.length<1000000) (l:Nat) (A0 A1 A2 A3 A4:Nat→AObj) (Hr:Nat→zz) (S:zz→Prop) (v0:Int) (hv0:v0<m)
 (hR:∀ (j:Nat) (z:Int),(ups bl v0)[j]? = some z→AYield EE l [int z] (A0 j :: A1 j :: A2 j :: A3 j :: A4 j :: .cells [int z] :: Hr j) fun v H'=>(v=.val (.bool true)∧H'=A0 (j+1) :: A1 (j+1) :: A2 (j+1) :: A3 (j+1) :: A4 (j+1) :: .cells [int z] :: Hr (j+1))∨(v=.val (.bool false)∧S H')) :
 ACall EE 113 [.yld l,.ptr 5 0,.iptr [.isl 11 (zy Br.enc bl)]] (A0 0 :: A1 0 :: A2 0 :: A3 0 :: A4 0 :: .cells [int v0] :: Hr 0) fun _ H'=>(∃ z,H'=A0 (ups bl v0).length :: A1 (ups bl v0).length :: A2 (ups bl v0).length :: A3 (ups bl v0).length :: A4 (ups bl v0).length :: .cells [int z] :: Hr (ups bl v0).length)∨S H':=by
 have kb:=Br.closedI bl
 have hbl:=zp Br.enc bl
 have hat:∀ (v:Int) (x:Br),0≤v→bl[v.toNat]? = some x→(zy Br.enc bl).getD v.toNat .undef=x.enc:=fun v x h0 hx=>by
  rw [zu];simp [List.getD_eq_getElem?_getD,List.getElem?_map,hx]
 generalize zy Br.enc bl=es at *
 generalize hu:ups bl v0=us at *
 refine zo ?_;unhygienic intros
 have nt:bNot true=false:=by simp only [ee];rfl
 have nf:bNot false=true:=by simp only [ee];rfl
 refine rB T113 [] ?_
 refine Aq ?_
 refine ze (ι:=Nat × Int) (fun p=>([(0,.yld l),(1,.ptr 5 0),(2,.iptr [.isl 11 es])],A0 p.1 :: A1 p.1 :: A2 p.1 :: A3 p.1 :: A4 p.1 :: .cells [int p.2] :: Hr p.1)) (fun p=>p.2<m∧∃ d,us=d++ups bl p.2∧p.1=d.length) (fun p=>p.2.toNat) (0,v0) ⟨hv0,[],hu.symm,rfl⟩ ?_ ?_
 · exact yz ⟨.refl _,.refl _,.refl _,trivial⟩
 rintro ⟨j,v⟩ ⟨hv,d,hd1,hj⟩
 dsimp only at hv hd1 hj ⊢
 by_cases hp:0<v
 · have m1:iLt 0 v=true:=by simp only [ee];simpa using hp
   obtain ⟨x,hx⟩:∃ x,bl[v.toNat]? = some x:=⟨_,List.getElem?_eq_getElem (by omega)⟩
   have hst:=ups_step hd hm hp hv hx
   have hdx:=hd v.toNat x (by omega) hx
   have hjv:us[j]? = some v:=by rw [hd1,hst,hj];simp
   have hy:=hR j v hjv
   have he:atA es v=x.enc:=by simp only [ee];exact hat v x (by omega) hx
   obtain ⟨co,ec,cv,cf,ck,xk,xn,xt,hxe,hec⟩:=x.form
   rw [hxe] at he
   generalize zy Tl.enc x.queries=qq at *
   have fz:=m1
   refine Cq ?_
   refine goC 60 ?_
   refine on_callv rfl rfl rfl rfl hy ?_
   rintro v1 H1 (⟨rfl,rfl⟩ | ⟨rfl,hS⟩)
   · have fz:=And.intro nt he
     refine Cq ?_
     refine goC 60 ?_
     refine zm (j+1,x.parent) ⟨by dsimp only;omega,d++[v],by rw [hd1,hst];simp,by simp [hj]⟩ (by dsimp only;omega) ?_
     exact yz ⟨.refl _,.refl _,.refl _,trivial⟩
   have fz:=nf
   refine Cq ?_
   refine goC 60 ?_
   refine zf ?_
   exact wo (Ent.refl _ _ _ _ _) rfl (.inr hS)
 have m1:iLt 0 v=false:=by simp only [ee];simpa using hp
 have hlow:=tN (l:=bl) (v:=v) (by omega)
 rw [hlow,List.append_nil] at hd1
 have fz:=m1
 refine Cq ?_
 refine goC 60 ?_
 refine zk ?_
 refine Aq ?_
 exact t6 (Ent.refl _ _ _ _ _) rfl (.inl ⟨v,by rw [hd1,hj]⟩)
def svP : List Int→List Bool × Int→List Bool × Int
 | [],s=>s
 | z :: r,s=>svP r (s.1.set z.toNat true,if s.1.getD z.toNat false then s.2+1 else s.2)
theorem svP_app : ∀ (a b:List Int) (s:List Bool × Int),svP (a++b) s=svP b (svP a s)
 | [],b,s=>rfl
 | z :: a,b,s=>by rw [List.cons_append,svP,svP,svP_app a b]
def svE (l:List Br):List (Int × Int)→List Bool × Int→List Bool × Int
 | [],s=>s
 | y :: r,s=>svE l r (svP (ups l y.1) s)
theorem svE_app (l:List Br):∀ (a b:List (Int × Int)) (s:List Bool × Int),svE l (a++b) s=svE l b (svE l a s)
 | [],b,s=>rfl
 | z :: a,b,s=>by rw [List.cons_append,svE,svE,svE_app l a b]
def Nt.saved (n:Nt):Int:=(svE n.brs (wI 0 n.brs) (List.replicate n.brs.length false,0)).2
theorem svP_len : ∀ (a:List Int) (s:List Bool × Int),(svP a s).1.length=s.1.length
 | [],s=>rfl
 | z :: a,s=>by rw [svP,svP_len a];simp
theorem svP_bd : ∀ (a:List Int) (s:List Bool × Int),s.2≤(svP a s).2∧(svP a s).2≤s.2+a.length
 | [],s=>by simp [svP]
 | z :: a,s=>by
  rw [svP]
  have:=svP_bd a (s.1.set z.toNat true,if s.1.getD z.toNat false then s.2+1 else s.2)
  dsimp only at this
  rw [List.length_cons]
  by_cases hb:s.1.getD z.toNat false=true
  · rw [if_pos hb] at this ⊢;omega
  rw [if_neg hb] at this ⊢;omega
theorem ends_len : ∀ (l:List Br) (i:Nat),(∀ b∈l,b.queries.length<1000000)→(wI i l).length≤l.length * 1000000
 | [],i,_=>by simp [wI]
 | b :: l,i,h=>by
  have h1:=h b (by simp)
  have h2:=ends_len l (i+1) (fun x hx=>h x (by simp [hx]))
  rw [wI,List.length_append,List.length_map,List.length_cons];omega
theorem ends_lt : ∀ (l:List Br) (i:Nat),∀ y∈wI i l,0≤y.1∧y.1<i+l.length
 | [],i,y,h=>by simp [wI] at h
 | b :: l,i,y,h=>by
  rw [wI,List.mem_append] at h
  rw [List.length_cons]
  rcases h with h | h
  · obtain ⟨t,_,rfl⟩:=List.mem_map.1 h;dsimp only;omega
  have:=ends_lt l (i+1) y h;omega
theorem orE_zero2 {a b:Int} (h:orE a b=0):a=0∧b=0:=by
 unfold orE at h
 split at h
 · exact absurd h (by assumption)
 rename_i h1;exact ⟨by simpa using h1,h⟩
theorem brsE_dec (n:Nt):∀ (r d:List Br) (s:List Bool),n.brs=d++r→Dec n.brs d.length→t5 n d.length s r=0→Dec n.brs n.brs.length
 | [],d,s,h,hd,_=>by
  have:n.brs.length=d.length:=by rw [h,List.append_nil]
  rw [this];exact hd
 | b :: r,d,s,h,hd,hz=>by
  rw [t5] at hz
  obtain ⟨h1,h2⟩:=orE_zero2 hz
  obtain ⟨_,h3⟩:=orE_zero2 h2
  have hb:n.brs[d.length]? = some b:=by rw [h];simp
  have h4:=brE_dec hb h1 hd
  exact brsE_dec n r (d++[b]) _ (by rw [h];simp) (by simpa using h4) (by simpa using h3)
theorem chk_dec {n:Nt} (h:n.chk=0):Dec n.brs n.brs.length:=by
 unfold Nt.chk at h
 split at h
 · cases h
 obtain ⟨_,h2⟩:=orE_zero2 h
 exact brsE_dec n n.brs [] _ rfl (fun i x hi=>absurd hi (Nat.not_lt_zero _)) h2
theorem ups_lt {l:List Br} {m:Nat} (hd:Dec l m) (hm:m≤l.length):∀ (k:Nat) (v:Int),v<m→v.toNat≤k→∀ z∈ups l v,0<z∧z≤v
 | 0,v,hv,hk,z,hz=>by rw [tN (by omega)] at hz;cases hz
 | k+1,v,hv,hk,z,hz=>by
  by_cases h:v≤0
  · rw [tN h] at hz;cases hz
  have hlt:v.toNat<l.length:=by omega
  have hp:=hd v.toNat l[v.toNat] (by omega) (List.getElem?_eq_getElem hlt)
  rw [ups_step hd hm (by omega) hv (List.getElem?_eq_getElem hlt)] at hz
  rcases List.mem_cons.1 hz with rfl | hz
  · omega
  have:=ups_lt hd hm k _ (by omega) (by omega) z hz;omega
end Go.Am
end
