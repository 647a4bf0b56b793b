/- Contracts of the program's functions. -/
import Derived.Test.YtpfnahcfnclgdaaGreatDoorProg
import Derived.Test.YtpfnahcfnclgdaaGreatDoorPCt9
import Derived.Test.YtpfnahcfnclgdaaGreatDoorPCt8
noncomputable section
set_option maxHeartbeats 16000000
set_option maxRecDepth 100000
namespace Go.Am
open Go.Proofs
def DerR : Option (List Ed × List Pat)→AV→zz→Prop
 | none,v,H=>v=.tup [.val (.slice none 0 0),.val (.slice none 0 0),int 17]∧H=[]
 | some S,v,H=>v=.tup [.sl 0 17 0 S.1.length,.isl 14 (zy Pat.enc S.2),int 0]∧H=[.arr 17 (zy Ed.enc S.1)]
theorem Ed.closedL' (l:List Ed):AV.closedL (zy Ed.enc l)=true:=by
 have:=Ed.closedI l
 simpa only [AV.closed] using this
theorem fit_E (l:List Ed):wK 17 (zy Ed.enc l)=true:=by
 rw [zu,wK,List.all_map,List.all_eq_true]
 intro x _
 obtain ⟨co,ec,cv,cf,ck,xk,xn,xt,he,hec⟩:=x.form
 rw [Function.comp_apply,he];rfl
theorem derL_take {l:List (Ed × Option Pat)} {j:Nat} {y:Ed × Option Pat} {S:List Ed × List Pat} (hy:l[j]? = some y) (hS:um (l.take j) ([],[])=some S) :
 um (l.take (j+1)) ([],[])=tm S y∧(tm S y=none→um l ([],[])=none):=by
 have h1:l.take (j+1)=l.take j++[y]:=by rw [List.take_add_one,hy];rfl
 have hlt:=(List.getElem?_eq_some_iff.1 hy).1
 have h2:l=l.take j++y :: l.drop (j+1):=by
  have:=List.take_append_drop j l
  rw [List.drop_eq_getElem_cons hlt,(List.getElem?_eq_some_iff.1 hy).2] at this
  exact this.symm
 constructor
 · rw [h1,derL_append,hS]
   show um [y] S=_
   rw [um]
   cases tm S y<;>rfl
 intro h
 rw [h2,derL_append,hS]
 show um (y :: _) S=_
 rw [um,h]
theorem enters_derivative_derived : xu EE.P 156:=enters_of rfl (by decide) T156.2
theorem C_derived (p:Pat) (hne:p.outs≠[]) (hc:p.cnt≤900) (hs:∀ c∈p.exs,c.Sm) (hp:PrsT p):ACall EE 156 [p.enc] [] (DerR p.der):=by
 obtain ⟨g,cs,hcs,pq,hq⟩:=hp
 have hok:∀ y∈p.outs,y.1.Ok∧∀ q,y.2=some q→q.Sm:=by
  intro y hy
  have b:=outs_bd p y hy
  have hE:∀ c,(c∈p.exs∨c=Ex0)→c.Sm:=fun c h=>h.elim (hs c) (fun h=>by rw [h];unfold Ex.Sm;decide)
  refine ⟨⟨hE _ b.cond,fun c h=>hE c (b.chk c h),?_,?_,?_,?_,?_⟩,fun q h=>⟨?_,fun c hc=>hE c (b.exs q h c hc)⟩⟩
  · have:=b.opens;omega
  · have:=b.closes;omega
  · have:=b.checks;omega
  · have:=b.limits;omega
  · have:=b.inside;omega
  have h1:=b.cnt q h
  have h2:p.cnt * p.cnt≤900 * 900:=Nat.mul_le_mul hc hc
  omega
 have hcl:=Pat.closed p
 have hder:p.der=um p.outs ([],[]):=rfl
 have hE0:zy Ed.enc []=[]:=by rw [zu];rfl
 have hP0:zy Pat.enc []=[]:=by rw [zu];rfl
 generalize p.der=D at *
 obtain ⟨pO,pA,pT,pV,pS,pN,pCo,pCa,pCv,pCf,pCk,pXk,pXn,pXt,hx⟩:=Pat.form p
 rw [hx] at hcl pq ⊢
 have kcl:AV.closedL [int pO,.isl 14 pA,int pT,int pV,int pS,int pN,int pCo,.isl 8 pCa,int pCv,int pCf,int pCk,int pXk,int pXn,str pXt]=true:=by simpa only [AV.closed] using hcl
 refine zo ?_;unhygienic intros
 refine rB T156 [.cell 2 1 false,.cell 3 1 false,.cell 4 1 false] ?_
 refine Aq ?_
 refine zh (args:=[.agg [int pO,.isl 14 pA,int pT,int pV,int pS,int pN,int pCo,.isl 8 pCa,int pCv,int pCf,int pCk,int pXk,int pXn,str pXt]]) rfl rfl rfl pq (zg hcl) ?_
 refine Aq ?_
 refine AWP.ent (yz (F':=[(10,.fn g cs),(6,.ptr 5 0),(5,.ptr 4 0),(4,.ptr 3 0),(3,.ptr 2 0),(2,.ptr 1 0),(1,.ptr 0 0)]) ⟨.refl _,.refl _,.refl _,.refl _,.refl _,.refl _,.refl _,trivial⟩) ?_
 have kF:KpF 6 [(10,.fn g cs),(6,.ptr 5 0),(5,.ptr 4 0),(4,.ptr 3 0),(3,.ptr 2 0),(2,.ptr 1 0),(1,.ptr 0 0)]:=⟨.cl hcs,.ptr (by decide),.ptr (by decide),.ptr (by decide),.ptr (by decide),.ptr (by decide),.ptr (by decide),trivial⟩
 refine on_rfunW (ι:=List Ed × List Pat) 6 (fun S=>[.cells [int pO,.isl 14 pA,int pT,int pV,int pS,int pN,int pCo,.isl 8 pCa,int pCv,int pCf,int pCk,int pXk,int pXn,str pXt],.cells [.val (.slice none 0 0)],.cells [.val (.slice none 0 0)],.cells [int 0],.cells [.sl 7 17 0 S.1.length],.cells [.sl 8 14 0 S.2.length]]) (fun S=>[.arr 17 (zy Ed.enc S.1),.arr 14 (zy Pat.enc S.2)])
  (fun j S=>um (p.outs.take j) ([],[])=some S∧sK p S) ([],[]) rfl (fun _=>rfl) rfl hq hcs (fun a ha=>by obtain ⟨y,_,rfl⟩:=List.mem_map.1 ha;exact outA_closed y) (fun a ha=>by obtain ⟨y,_,rfl⟩:=List.mem_map.1 ha;rfl)
  ⟨rfl,⟨by simp,by simp,by simp,by simp,by simp⟩⟩ ?_ (fun j args hj S hS=>?_) (fun h=>?_) (fun S hS=>?_)
 · dsimp only [List.cons_append,List.nil_append]
   rw [hE0,hP0]
   exact xx [.to 0,.to 1,.to 2,.to 3,.to 4,.to 5,.to 6] [some 0,some 1,some 2,some 3,some 4,some 5,some 6,none,none] rfl ⟨rfl,rfl,rfl,rfl,rfl,rfl,rfl,trivial⟩ (by simp) (by simp) ⟨⟨by simp,rfl⟩,⟨by simp,rfl⟩,⟨by simp,rfl⟩,⟨by simp,rfl⟩,⟨by simp,rfl⟩,⟨by simp,rfl⟩,⟨by simp,rfl⟩,trivial⟩ ⟨zx (b:=0) rfl rfl rfl (by rw [zw _ kcl];exact WkL.refl _ _),zx (b:=1) rfl rfl rfl ⟨.refl _,trivial⟩,zx (b:=2) rfl rfl rfl ⟨.refl _,trivial⟩,zx (b:=3) rfl rfl rfl ⟨.refl _,trivial⟩,zx (b:=4) rfl rfl rfl ⟨.nilS _ _ _ (by simp),trivial⟩,zx (b:=5) rfl rfl rfl ⟨.nilS _ _ _ (by simp),trivial⟩,.some 6 _ _ rfl rfl rfl (.loop _ _ _ _ _ _ _ _ ⟨.cl hcs,.refl _,.refl _,.refl _,.refl _,.refl _,.refl _,trivial⟩),.none _ rfl,.none _ rfl,trivial⟩
 · obtain ⟨hS1,hS2⟩:=hS
   rw [List.getElem?_map] at hj
   obtain ⟨⟨x,z⟩,hyj,rfl⟩:=Option.map_eq_some_iff.1 hj
   obtain ⟨hox,hoz⟩:=hok _ (List.mem_of_getElem? hyj)
   dsimp only at hox hoz
   obtain ⟨ht1,ht2⟩:=derL_take hyj hS1
   rw [← hder] at ht2
   have hnx:∀ S',tm S (x,z)=some S'→um (p.outs.take (j+1)) ([],[])=some S'∧sK p S':=fun S' h=>⟨ht1.trans h,derS_ok hS2 hox hoz h⟩
   clear ht1 hj hyj hok hS1 hq pq hder hne
   obtain ⟨es,rs⟩:=S
   have hfew:=hS2.few
   have hle:=hS2.le
   have hsm:=hS2.sm
   dsimp only at hfew hle hsm
   obtain ⟨co,ec,cv,cf,ck,xk,xn,xt,he,hec⟩:=x.form
   have kx:=x.closed
   have kz:=xi z
   have hxv:∀ v:Int,({ x with to:=v }:Ed).enc=.agg [int x.frm,int v,int x.var,int x.ty,int co,.isl 8 ec,int cv,int cf,int ck,int xk,int xn,str xt,.isl 1 (zy int x.opens),.isl 1 (zy int x.closes),.isl 8 (zy Ex.enc x.checks),.isl 2 (zy wy x.limits),.isl 1 (zy int x.inside)]:=fun v=>by
    show AV.agg ([int x.frm,int v,int x.var,int x.ty]++x.cond.enc.cells++_)=_
    rw [hec];rfl
   have kxv:=fun v=>Ed.closed { x with to:=v }
   have pcf:=fun v:Int=>P_ContainsFuncE 174 [.iptr ({ x with to:=v }:Ed).enc.cells] (zg (by
    have:=kxv v
    rw [hxv v] at this ⊢
    simpa [AV.cells,AV.closed,AV.closedL] using this)) (fun z=>decide (v=z.to) && uP { x with to:=v } z) es (by omega) (fun z _=>P_derived1 z { x with to:=v } ⟨hox.cond,hox.chk,hox.l1,hox.l2,hox.l3,hox.l4,hox.l5⟩)
   have hsn:∀ v:Int,zy Ed.enc (es++[{ x with to:=v }])=zy Ed.enc es++[({ x with to:=v }:Ed).enc]:=fun v=>by rw [zu,zu,List.map_append];rfl
   have kes:=Ed.closedL' es
   have kep:=fun v=>Ed.closedL' (es++[{ x with to:=v }])
   have hel:=zp Ed.enc es
   have hrl:=zp Pat.enc rs
   have krs:=Pat.closedL' rs
   have fes:=fit_E es
   obtain ⟨el,hE1⟩:∃ el,el=zy Ed.enc es:=⟨_,rfl⟩
   obtain ⟨rl,hR1⟩:∃ rl,rl=zy Pat.enc rs:=⟨_,rfl⟩
   obtain ⟨n,hn⟩:∃ n,n=es.length:=⟨_,rfl⟩
   obtain ⟨m,hm⟩:∃ m,m=rs.length:=⟨_,rfl⟩
   dsimp only
   rw [← hE1,← hR1,← hn,← hm]
   rw [← hE1] at kes hel fes
   rw [← hR1] at krs hrl
   rw [← hn] at hel hfew hle
   rw [← hm] at hrl hle
   simp only [← hE1] at pcf hsn
   show zl _ _ _ _ _ _ (vM _ _ (wM (x,z))) _
   simp only [wM]
   rw [he]
   rw [he] at kx
   simp only [hxv] at pcf hsn kxv
   clear he hec hxv
   generalize zy int x.opens=e1 at *
   generalize zy int x.closes=e2 at *
   generalize zy Ex.enc x.checks=e3 at *
   generalize zy wy x.limits=e4 at *
   generalize zy int x.inside=e5 at *
   dsimp only [AV.cells] at pcf
   have kxc:∀ v:Int,AV.closedL [int x.frm,int v,int x.var,int x.ty,int co,.isl 8 ec,int cv,int cf,int ck,int xk,int xn,str xt,.isl 1 e1,.isl 1 e2,.isl 8 e3,.isl 2 e4,.isl 1 e5]=true:=fun v=>by have:=kxv v;simpa only [AV.closed] using this
   have nt:bNot true=false:=by simp only [ee];rfl
   have nf:bNot false=true:=by simp only [ee];rfl
   cases z with
   | none =>
    have hz0:wR none=_:=uu
    rw [hz0] at kz ⊢
    clear hz0
    have hdS:tm (es,rs) (x,none)=if (es.any fun z=>decide ((-1:Int)=z.to) && uP { x with to:=-1 } z)=true then some (es,rs) else if 2048<es.length+1 then none else some (es++[{ x with to:=-1 }],rs):=rfl
    have pc:=pcf (-1)
    have hs1:=hsn (-1)
    have kp1:=kep (-1)
    have kx1:=kxc (-1)
    rw [← hn] at hdS
    obtain ⟨n1,hn1⟩:∃ n1,n1=n+1:=⟨_,rfl⟩
    obtain ⟨el2,hE2⟩:∃ el2,el2=zy Ed.enc (es++[{ x with to:=-1 }]):=⟨_,rfl⟩
    rw [← hE2] at hs1 kp1
    generalize (es.any fun z=>decide ((-1:Int)=z.to) && uP { x with to:=-1 } z)=a at *
    refine Aq ?_
    refine yZ rfl ?_
    have fz:=And.intro nt nf
    refine Cq ?_
    refine Cr ?_
    refine vT rfl rfl pc rfl ⟨[.gone,.gone,.gone,.gone,.gone,.gone,.gone,.isl 17 el,.gone,.icells [int x.frm,int (-1),int x.var,int x.ty,int co,.isl 8 ec,int cv,int cf,int ck,int xk,int xn,str xt,.isl 1 e1,.isl 1 e2,.isl 8 e3,.isl 2 e4,.isl 1 e5],.gone],⟨trivial,trivial,trivial,trivial,trivial,trivial,trivial,⟨_,rfl,(zw _ kes).symm⟩,trivial,⟨_,rfl,(zw _ kx1).symm⟩,trivial,trivial⟩,⟨.of (xm rfl hel.symm),.of rfl,trivial⟩⟩ ?_
    cases a with
    | true =>
     refine Aq ?_
     refine vz (es,rs) rfl (hnx _ (hdS.trans (if_pos rfl))) ?_
     dsimp only [List.cons_append,List.nil_append]
     rw [← hE1,← hR1,← hn,← hm]
     exact xx [.to 0,.to 1,.to 2,.to 3,.to 4,.to 5,.to 6,.to 7,.to 8,.gone,.gone] [some 0,some 1,some 2,some 3,some 4,some 5,some 6,some 7,some 8] rfl ⟨rfl,rfl,rfl,rfl,rfl,rfl,rfl,trivial⟩ (by simp) (by simp) ⟨⟨by simp,rfl⟩,⟨by simp,rfl⟩,⟨by simp,rfl⟩,⟨by simp,rfl⟩,⟨by simp,rfl⟩,⟨by simp,rfl⟩,⟨by simp,rfl⟩,⟨by simp,rfl⟩,⟨by simp,rfl⟩,trivial,trivial,trivial⟩ ⟨zx (b:=0) rfl rfl rfl (by rw [zw _ kcl];exact WkL.refl _ _),zx (b:=1) rfl rfl rfl ⟨.refl _,trivial⟩,zx (b:=2) rfl rfl rfl ⟨.refl _,trivial⟩,zx (b:=3) rfl rfl rfl ⟨.refl _,trivial⟩,zx (b:=4) rfl rfl rfl ⟨.refl _,trivial⟩,zx (b:=5) rfl rfl rfl ⟨.refl _,trivial⟩,.some 6 _ _ rfl rfl rfl (.loop _ _ _ _ _ _ _ _ ⟨.cl hcs,.refl _,.refl _,.refl _,.refl _,.refl _,.refl _,trivial⟩),zR (b:=7) rfl rfl rfl rfl kes,zR (b:=8) rfl rfl rfl rfl krs,trivial⟩
    | false =>
     rw [if_neg (by decide)] at hdS
     have f1:addN n (lenN (partA [.agg [int x.frm,int (-1),int x.var,int x.ty,int co,.isl 8 ec,int cv,int cf,int ck,int xk,int xn,str xt,.isl 1 e1,.isl 1 e2,.isl 8 e3,.isl 2 e4,.isl 1 e5]] 0 1))=n1:=by simp only [ee];rw [hn1];simp
     have f2:catA (dropA el 0) (partA [.agg [int x.frm,int (-1),int x.var,int x.ty,int co,.isl 8 ec,int cv,int cf,int ck,int xk,int xn,str xt,.isl 1 e1,.isl 1 e2,.isl 8 e3,.isl 2 e4,.isl 1 e5]] 0 1)=el2:=by simp only [ee];rw [hs1];simp
     refine goB hX 0 (by conv=>lhs;cbv;try simp only [];cbv;try simp only [];cbv;try simp only [];cbv;try simp only [];cbv) ?_
     have fz:=And.intro f1 f2
     refine Cr ?_
     by_cases hb:2048<n1
     · have kq:iLt 2048 (iOf n1)=true:=by simp only [ee];simp;omega
       rw [if_pos (show 2048<n+1 by omega)] at hdS
       rw [ht2 hdS]
       have fz:=And.intro kq (And.intro f1 f2)
       refine Cq ?_
       refine Aq ?_
       refine rndV_stop (by simp) rfl ?_
       refine wo (F2:=[(2,.iptr [.val (.slice none 0 0)]),(3,.iptr [.val (.slice none 0 0)]),(4,.iptr [int 17])]) (H2:=[]) (eS [.gone,.icells [.val (.slice none 0 0)],.icells [.val (.slice none 0 0)],.icells [int 17]] []) rfl ⟨rfl,rfl⟩
     have kq:iLt 2048 (iOf n1)=false:=by simp only [ee];simp;omega
     rw [if_neg (show ¬ 2048<n+1 by omega)] at hdS
     have fz:=And.intro kq (And.intro f1 f2)
     refine Cq ?_
     refine Aq ?_
     refine vz (es++[{ x with to:=(-1) }],rs) rfl (hnx _ hdS) ?_
     dsimp only [List.cons_append,List.nil_append]
     have hl2:(es++[({ x with to:=(-1) }:Ed)]).length=n1:=by rw [List.length_append,← hn,hn1];rfl
     rw [← hE2,← hR1,← hm,hl2]
     exact xx [.to 0,.to 1,.to 2,.to 3,.to 4,.to 5,.to 6,.gone,.to 8,.gone,.gone,.gone,.to 7] [some 0,some 1,some 2,some 3,some 4,some 5,some 6,some 12,some 8] rfl ⟨rfl,rfl,rfl,rfl,rfl,rfl,rfl,trivial⟩ (by simp) (by simp) ⟨⟨by simp,rfl⟩,⟨by simp,rfl⟩,⟨by simp,rfl⟩,⟨by simp,rfl⟩,⟨by simp,rfl⟩,⟨by simp,rfl⟩,⟨by simp,rfl⟩,trivial,⟨by simp,rfl⟩,trivial,trivial,trivial,⟨by simp,rfl⟩,trivial⟩ ⟨zx (b:=0) rfl rfl rfl (by rw [zw _ kcl];exact WkL.refl _ _),zx (b:=1) rfl rfl rfl ⟨.refl _,trivial⟩,zx (b:=2) rfl rfl rfl ⟨.refl _,trivial⟩,zx (b:=3) rfl rfl rfl ⟨.refl _,trivial⟩,zx (b:=4) rfl rfl rfl ⟨.refl _,trivial⟩,zx (b:=5) rfl rfl rfl ⟨.refl _,trivial⟩,.some 6 _ _ rfl rfl rfl (.loop _ _ _ _ _ _ _ _ ⟨.cl hcs,.refl _,.refl _,.refl _,.refl _,.refl _,.refl _,trivial⟩),zR (b:=12) rfl rfl rfl rfl kp1,zR (b:=8) rfl rfl rfl rfl krs,trivial⟩
   | some q =>
    have hq2:=hoz q rfl
    have hz1:wR (some q)=.agg (bool false :: q.enc.cells):=rfl
    have pi:=P_index rs q hq2 (by omega)
    have pk:=vR q hq2
    have kq:=Pat.closed q
    have hvl:=idxP_len rs q
    obtain ⟨v,hv⟩:∃ v,v=x9 0 rs q:=⟨_,rfl⟩
    obtain ⟨ck',hck⟩:∃ c,c=q.chkR:=⟨_,rfl⟩
    have hfq:=sV [q]
    have hsq:zy Pat.enc (rs++[q])=zy Pat.enc rs++[q.enc]:=by rw [zu,zu,List.map_append];rfl
    have krs2:=Pat.closedL' (rs++[q])
    obtain ⟨rl2,hR2⟩:∃ rl2,rl2=zy Pat.enc (rs++[q]):=⟨_,rfl⟩
    rw [← hR2] at hsq krs2
    rw [← hR1,← hv] at pi
    rw [← hck] at pk
    rw [← hR1] at hsq
    obtain ⟨qO,qA,qT,qV,qS,qN,qCo,qCa,qCv,qCf,qCk,qXk,qXn,qXt,hqf⟩:=Pat.form q
    rw [hz1] at kz ⊢
    rw [hqf] at kz pi pk kq hsq ⊢
    dsimp only [AV.cells] at kz ⊢
    refine Aq ?_
    refine yZ rfl ?_
    have fz:=And.intro nt nf
    refine Cq ?_
    refine Cr ?_
    refine vT rfl rfl pi rfl ⟨[.gone,.gone,.gone,.gone,.gone,.gone,.gone,.gone,.isl 14 rl],⟨trivial,trivial,trivial,trivial,trivial,trivial,trivial,trivial,⟨_,rfl,(zw _ krs).symm⟩,trivial⟩,⟨.of (xm rfl hrl.symm),.cl kq,trivial⟩⟩ ?_
    by_cases hv0:v<0
    · have k0:iLt v 0=true:=by simp only [ee];simp [hv0]
      have fz:=k0
      refine Cq ?_
      refine Cr ?_
      refine zh (args:=[.agg [int qO,.isl 14 qA,int qT,int qV,int qS,int qN,int qCo,.isl 8 qCa,int qCv,int qCf,int qCk,int qXk,int qXn,str qXt]]) rfl rfl rfl pk (zg kq) ?_
      by_cases hc0:ck'=0
      · have k1:iNe ck' 0=false:=by simp only [ee];simp [hc0]
        obtain ⟨mi,hmi⟩:∃ mi,mi=(m:Int):=⟨_,rfl⟩
        have k2:iOf m=mi:=by simp only [ee];rw [hmi]
        have hdS:tm (es,rs) (x,some q)=if (es.any fun z=>decide ((mi:Int)=z.to) && uP { x with to:=mi } z)=true then some (es,rs++[q]) else if 2048<n+1 then none else some (es++[{ x with to:=mi }],rs++[q]):=by
         have hb:vU rs (some q)=false:=by simp only [vU,← hck,hc0];simp
         have ht:tB rs (some q)=mi:=by simp only [tB];rw [← hv,if_pos hv0,hmi,hm]
         have hr:xW rs (some q)=rs++[q]:=by simp only [xW];rw [← hv,if_pos hv0]
         unfold tm
         dsimp only
         rw [hb,ht,hr,if_neg (by decide),hn]
        have pc:=pcf mi
        have hs1:=hsn mi
        have kp1:=kep mi
        have kx1:=kxc mi
        obtain ⟨n1,hn1⟩:∃ n1,n1=n+1:=⟨_,rfl⟩
        obtain ⟨el2,hE2⟩:∃ el2,el2=zy Ed.enc (es++[{ x with to:=mi }]):=⟨_,rfl⟩
        rw [← hE2] at hs1 kp1
        generalize (es.any fun z=>decide ((mi:Int)=z.to) && uP { x with to:=mi } z)=a at *
        obtain ⟨m1,hm1⟩:∃ m1,m1=(rs++[q]).length:=⟨_,rfl⟩
        have hm1b:m1=m+1:=by rw [hm1,List.length_append,← hm];rfl
        have g1:addN m (lenN (partA [.agg [int 0,.val (.slice none 0 0),int 0,int 0,int 0,int 0,int 0,.val (.slice none 0 0),int 0,int 0,int 0,int 0,int 0,str ⟨#[]⟩]] 0 1))=m1:=by simp only [ee];rw [hm1b];rfl
        have g2:setA (catA (dropA rl 0) (partA [.agg [int 0,.val (.slice none 0 0),int 0,int 0,int 0,int 0,int 0,.val (.slice none 0 0),int 0,int 0,int 0,int 0,int 0,str ⟨#[]⟩]] 0 1)) (idxN 0 mi) (.agg [int qO,.isl 14 qA,int qT,int qV,int qS,int qN,int qCo,.isl 8 qCa,int qCv,int qCf,int qCk,int qXk,int qXn,str qXt])=rl2:=by
         simp only [ee]
         rw [hsq,hmi,← hrl]
         simp
        have fz:=k1
        refine Cq ?_
        have fz:=And.intro k1 k2
        refine Cr ?_
        have fz:=k2
        refine Cq ?_
        refine trp_drawE [4,5,7,8] [[4,5,7,8],[4,5,8,7]] ?F0 ?H0 rfl rfl rfl (by decide) rfl ?hr ⟨⟨[0,1,2,3,4,5,6,7,8],rfl,?c1⟩,⟨[0,1,2,3,4,5,6,8,7],rfl,?c2⟩,trivial⟩
        case c1 =>
         have fz:=And.intro g1 (And.intro k2 g2)
         refine tgC ?_
         refine zK ⟨by simp [xh],?_,?_⟩
         · simp only [vb,zd,List.append_nil];and_intros<;>first | trivial | (intro hp;first | rfl | exact absurd (show false=true from hp) Bool.false_ne_true)
         exact Ent.refl _ _ _ _ _
        case c2 =>
         have fz:=And.intro g1 (And.intro k2 g2)
         refine tgC ?_
         refine zK ⟨by simp [xh],?_,?_⟩
         · simp only [vb,zd,List.append_nil];and_intros<;>first | trivial | (intro hp;first | rfl | exact absurd (show false=true from hp) Bool.false_ne_true)
         exact Ent.refl _ _ _ _ _
        refine goB hX 0 (by conv=>lhs;cbv;try simp only [];cbv;try simp only [];cbv;try simp only [];cbv;try simp only [];cbv) ?_
        refine vT rfl rfl pc rfl ⟨[.gone,.gone,.gone,.gone,.gone,.gone,.gone,.isl 17 el,.gone,.icells [int x.frm,int mi,int x.var,int x.ty,int co,.isl 8 ec,int cv,int cf,int ck,int xk,int xn,str xt,.isl 1 e1,.isl 1 e2,.isl 8 e3,.isl 2 e4,.isl 1 e5],.gone,.gone,.gone],⟨trivial,trivial,trivial,trivial,trivial,trivial,trivial,⟨_,rfl,(zw _ kes).symm⟩,trivial,⟨_,rfl,(zw _ kx1).symm⟩,trivial,trivial,trivial,trivial⟩,⟨.of (xm rfl hel.symm),.of rfl,trivial⟩⟩ ?_
        cases a with
        | true =>
         refine Aq ?_
         refine vz (es,(rs++[q])) rfl (hnx _ (hdS.trans (if_pos rfl))) ?_
         dsimp only [List.cons_append,List.nil_append]
         rw [← hE1,← hR2,← hn,← hm1]
         exact xx [.to 0,.to 1,.to 2,.to 3,.to 4,.to 5,.to 6,.to 7,.gone,.gone,.gone,.gone,.to 8] [some 0,some 1,some 2,some 3,some 4,some 5,some 6,some 7,some 12] rfl ⟨rfl,rfl,rfl,rfl,rfl,rfl,rfl,trivial⟩ (by simp) (by simp) ⟨⟨by simp,rfl⟩,⟨by simp,rfl⟩,⟨by simp,rfl⟩,⟨by simp,rfl⟩,⟨by simp,rfl⟩,⟨by simp,rfl⟩,⟨by simp,rfl⟩,⟨by simp,rfl⟩,trivial,trivial,trivial,trivial,⟨by simp,rfl⟩,trivial⟩ ⟨zx (b:=0) rfl rfl rfl (by rw [zw _ kcl];exact WkL.refl _ _),zx (b:=1) rfl rfl rfl ⟨.refl _,trivial⟩,zx (b:=2) rfl rfl rfl ⟨.refl _,trivial⟩,zx (b:=3) rfl rfl rfl ⟨.refl _,trivial⟩,zx (b:=4) rfl rfl rfl ⟨.refl _,trivial⟩,zx (b:=5) rfl rfl rfl ⟨.refl _,trivial⟩,.some 6 _ _ rfl rfl rfl (.loop _ _ _ _ _ _ _ _ ⟨.cl hcs,.refl _,.refl _,.refl _,.refl _,.refl _,.refl _,trivial⟩),zR (b:=7) rfl rfl rfl rfl kes,zR (b:=12) rfl rfl rfl rfl krs2,trivial⟩
        | false =>
         rw [if_neg (by decide)] at hdS
         have f1:addN n (lenN (partA [.agg [int x.frm,int mi,int x.var,int x.ty,int co,.isl 8 ec,int cv,int cf,int ck,int xk,int xn,str xt,.isl 1 e1,.isl 1 e2,.isl 8 e3,.isl 2 e4,.isl 1 e5]] 0 1))=n1:=by simp only [ee];rw [hn1];simp
         have f2:catA (dropA el 0) (partA [.agg [int x.frm,int mi,int x.var,int x.ty,int co,.isl 8 ec,int cv,int cf,int ck,int xk,int xn,str xt,.isl 1 e1,.isl 1 e2,.isl 8 e3,.isl 2 e4,.isl 1 e5]] 0 1)=el2:=by simp only [ee];rw [hs1];simp
         refine goB hX 0 (by conv=>lhs;cbv;try simp only [];cbv;try simp only [];cbv;try simp only [];cbv;try simp only [];cbv) ?_
         have fz:=And.intro f1 f2
         refine Cr ?_
         by_cases hb:2048<n1
         · have kq:iLt 2048 (iOf n1)=true:=by simp only [ee];simp;omega
           rw [if_pos (show 2048<n+1 by omega)] at hdS
           rw [ht2 hdS]
           have fz:=And.intro kq (And.intro f1 f2)
           refine Cq ?_
           refine Aq ?_
           refine rndV_stop (by simp) rfl ?_
           refine wo (F2:=[(2,.iptr [.val (.slice none 0 0)]),(3,.iptr [.val (.slice none 0 0)]),(4,.iptr [int 17])]) (H2:=[]) (eS [.gone,.icells [.val (.slice none 0 0)],.icells [.val (.slice none 0 0)],.icells [int 17]] []) rfl ⟨rfl,rfl⟩
         have kq:iLt 2048 (iOf n1)=false:=by simp only [ee];simp;omega
         rw [if_neg (show ¬ 2048<n+1 by omega)] at hdS
         have fz:=And.intro kq (And.intro f1 f2)
         refine Cq ?_
         refine Aq ?_
         refine vz (es++[{ x with to:=mi }],(rs++[q])) rfl (hnx _ hdS) ?_
         dsimp only [List.cons_append,List.nil_append]
         have hl2:(es++[({ x with to:=mi }:Ed)]).length=n1:=by rw [List.length_append,← hn,hn1];rfl
         rw [← hE2,← hR2,← hm1,hl2]
         exact xx [.to 0,.to 1,.to 2,.to 3,.to 4,.to 5,.to 6,.gone,.gone,.gone,.gone,.gone,.to 8,.gone,.to 7] [some 0,some 1,some 2,some 3,some 4,some 5,some 6,some 14,some 12] rfl ⟨rfl,rfl,rfl,rfl,rfl,rfl,rfl,trivial⟩ (by simp) (by simp) ⟨⟨by simp,rfl⟩,⟨by simp,rfl⟩,⟨by simp,rfl⟩,⟨by simp,rfl⟩,⟨by simp,rfl⟩,⟨by simp,rfl⟩,⟨by simp,rfl⟩,trivial,trivial,trivial,trivial,trivial,⟨by simp,rfl⟩,trivial,⟨by simp,rfl⟩,trivial⟩ ⟨zx (b:=0) rfl rfl rfl (by rw [zw _ kcl];exact WkL.refl _ _),zx (b:=1) rfl rfl rfl ⟨.refl _,trivial⟩,zx (b:=2) rfl rfl rfl ⟨.refl _,trivial⟩,zx (b:=3) rfl rfl rfl ⟨.refl _,trivial⟩,zx (b:=4) rfl rfl rfl ⟨.refl _,trivial⟩,zx (b:=5) rfl rfl rfl ⟨.refl _,trivial⟩,.some 6 _ _ rfl rfl rfl (.loop _ _ _ _ _ _ _ _ ⟨.cl hcs,.refl _,.refl _,.refl _,.refl _,.refl _,.refl _,trivial⟩),zR (b:=14) rfl rfl rfl rfl kp1,zR (b:=12) rfl rfl rfl rfl krs2,trivial⟩
      have k1:iNe ck' 0=true:=by simp only [ee];simp [hc0]
      have hdS:tm (es,rs) (x,some q)=none:=by
       have hb:vU rs (some q)=true:=by simp only [vU,← hck,← hv];simp [hv0,hc0]
       unfold tm
       dsimp only
       rw [hb,if_pos rfl]
      rw [ht2 hdS]
      have fz:=k1
      refine Cq ?_
      refine goC 60 ?_
      refine rndV_stop (by simp) rfl ?_
      refine wo (F2:=[(2,.iptr [.val (.slice none 0 0)]),(3,.iptr [.val (.slice none 0 0)]),(4,.iptr [int 17])]) (H2:=[]) (eS [.gone,.icells [.val (.slice none 0 0)],.icells [.val (.slice none 0 0)],.icells [int 17]] []) rfl ⟨rfl,rfl⟩
    have k0:iLt v 0=false:=by simp only [ee];simp;omega
    have hdS:tm (es,rs) (x,some q)=if (es.any fun z=>decide ((v:Int)=z.to) && uP { x with to:=v } z)=true then some (es,rs) else if 2048<n+1 then none else some (es++[{ x with to:=v }],rs):=by
     have hb:vU rs (some q)=false:=by simp only [vU,← hv];simp;omega
     have ht:tB rs (some q)=v:=by simp only [tB];rw [← hv,if_neg hv0]
     have hr:xW rs (some q)=rs:=by simp only [xW];rw [← hv,if_neg hv0]
     unfold tm
     dsimp only
     rw [hb,ht,hr,if_neg (by decide),hn]
    have pc:=pcf v
    have hs1:=hsn v
    have kp1:=kep v
    have kx1:=kxc v
    obtain ⟨n1,hn1⟩:∃ n1,n1=n+1:=⟨_,rfl⟩
    obtain ⟨el2,hE2⟩:∃ el2,el2=zy Ed.enc (es++[{ x with to:=v }]):=⟨_,rfl⟩
    rw [← hE2] at hs1 kp1
    generalize (es.any fun z=>decide ((v:Int)=z.to) && uP { x with to:=v } z)=a at *
    have fz:=k0
    refine Cq ?_
    refine Cr ?_
    refine vT rfl rfl pc rfl ⟨[.gone,.gone,.gone,.gone,.gone,.gone,.gone,.isl 17 el,.gone,.icells [int x.frm,int v,int x.var,int x.ty,int co,.isl 8 ec,int cv,int cf,int ck,int xk,int xn,str xt,.isl 1 e1,.isl 1 e2,.isl 8 e3,.isl 2 e4,.isl 1 e5],.gone],⟨trivial,trivial,trivial,trivial,trivial,trivial,trivial,⟨_,rfl,(zw _ kes).symm⟩,trivial,⟨_,rfl,(zw _ kx1).symm⟩,trivial,trivial⟩,⟨.of (xm rfl hel.symm),.of rfl,trivial⟩⟩ ?_
    cases a with
    | true =>
     refine Aq ?_
     refine vz (es,rs) rfl (hnx _ (hdS.trans (if_pos rfl))) ?_
     dsimp only [List.cons_append,List.nil_append]
     rw [← hE1,← hR1,← hn,← hm]
     exact xx [.to 0,.to 1,.to 2,.to 3,.to 4,.to 5,.to 6,.to 7,.to 8,.gone,.gone] [some 0,some 1,some 2,some 3,some 4,some 5,some 6,some 7,some 8] rfl ⟨rfl,rfl,rfl,rfl,rfl,rfl,rfl,trivial⟩ (by simp) (by simp) ⟨⟨by simp,rfl⟩,⟨by simp,rfl⟩,⟨by simp,rfl⟩,⟨by simp,rfl⟩,⟨by simp,rfl⟩,⟨by simp,rfl⟩,⟨by simp,rfl⟩,⟨by simp,rfl⟩,⟨by simp,rfl⟩,trivial,trivial,trivial⟩ ⟨zx (b:=0) rfl rfl rfl (by rw [zw _ kcl];exact WkL.refl _ _),zx (b:=1) rfl rfl rfl ⟨.refl _,trivial⟩,zx (b:=2) rfl rfl rfl ⟨.refl _,trivial⟩,zx (b:=3) rfl rfl rfl ⟨.refl _,trivial⟩,zx (b:=4) rfl rfl rfl ⟨.refl _,trivial⟩,zx (b:=5) rfl rfl rfl ⟨.refl _,trivial⟩,.some 6 _ _ rfl rfl rfl (.loop _ _ _ _ _ _ _ _ ⟨.cl hcs,.refl _,.refl _,.refl _,.refl _,.refl _,.refl _,trivial⟩),zR (b:=7) rfl rfl rfl rfl kes,zR (b:=8) rfl rfl rfl rfl krs,trivial⟩
    | false =>
     rw [if_neg (by decide)] at hdS
     have f1:addN n (lenN (partA [.agg [int x.frm,int v,int x.var,int x.ty,int co,.isl 8 ec,int cv,int cf,int ck,int xk,int xn,str xt,.isl 1 e1,.isl 1 e2,.isl 8 e3,.isl 2 e4,.isl 1 e5]] 0 1))=n1:=by simp only [ee];rw [hn1];simp
     have f2:catA (dropA el 0) (partA [.agg [int x.frm,int v,int x.var,int x.ty,int co,.isl 8 ec,int cv,int cf,int ck,int xk,int xn,str xt,.isl 1 e1,.isl 1 e2,.isl 8 e3,.isl 2 e4,.isl 1 e5]] 0 1)=el2:=by simp only [ee];rw [hs1];simp
     refine goB hX 0 (by conv=>lhs;cbv;try simp only [];cbv;try simp only [];cbv;try simp only [];cbv;try simp only [];cbv) ?_
     have fz:=And.intro f1 f2
     refine Cr ?_
     by_cases hb:2048<n1
     · have kq:iLt 2048 (iOf n1)=true:=by simp only [ee];simp;omega
       rw [if_pos (show 2048<n+1 by omega)] at hdS
       rw [ht2 hdS]
       have fz:=And.intro kq (And.intro f1 f2)
       refine Cq ?_
       refine Aq ?_
       refine rndV_stop (by simp) rfl ?_
       refine wo (F2:=[(2,.iptr [.val (.slice none 0 0)]),(3,.iptr [.val (.slice none 0 0)]),(4,.iptr [int 17])]) (H2:=[]) (eS [.gone,.icells [.val (.slice none 0 0)],.icells [.val (.slice none 0 0)],.icells [int 17]] []) rfl ⟨rfl,rfl⟩
     have kq:iLt 2048 (iOf n1)=false:=by simp only [ee];simp;omega
     rw [if_neg (show ¬ 2048<n+1 by omega)] at hdS
     have fz:=And.intro kq (And.intro f1 f2)
     refine Cq ?_
     refine Aq ?_
     refine vz (es++[{ x with to:=v }],rs) rfl (hnx _ hdS) ?_
     dsimp only [List.cons_append,List.nil_append]
     have hl2:(es++[({ x with to:=v }:Ed)]).length=n1:=by rw [List.length_append,← hn,hn1];rfl
     rw [← hE2,← hR1,← hm,hl2]
     exact xx [.to 0,.to 1,.to 2,.to 3,.to 4,.to 5,.to 6,.gone,.to 8,.gone,.gone,.gone,.to 7] [some 0,some 1,some 2,some 3,some 4,some 5,some 6,some 12,some 8] rfl ⟨rfl,rfl,rfl,rfl,rfl,rfl,rfl,trivial⟩ (by simp) (by simp) ⟨⟨by simp,rfl⟩,⟨by simp,rfl⟩,⟨by simp,rfl⟩,⟨by simp,rfl⟩,⟨by simp,rfl⟩,⟨by simp,rfl⟩,⟨by simp,rfl⟩,trivial,⟨by simp,rfl⟩,trivial,trivial,trivial,⟨by simp,rfl⟩,trivial⟩ ⟨zx (b:=0) rfl rfl rfl (by rw [zw _ kcl];exact WkL.refl _ _),zx (b:=1) rfl rfl rfl ⟨.refl _,trivial⟩,zx (b:=2) rfl rfl rfl ⟨.refl _,trivial⟩,zx (b:=3) rfl rfl rfl ⟨.refl _,trivial⟩,zx (b:=4) rfl rfl rfl ⟨.refl _,trivial⟩,zx (b:=5) rfl rfl rfl ⟨.refl _,trivial⟩,.some 6 _ _ rfl rfl rfl (.loop _ _ _ _ _ _ _ _ ⟨.cl hcs,.refl _,.refl _,.refl _,.refl _,.refl _,.refl _,trivial⟩),zR (b:=12) rfl rfl rfl rfl kp1,zR (b:=8) rfl rfl rfl rfl krs,trivial⟩
 · rw [List.map_eq_nil_iff] at h
   exact absurd h hne
 obtain ⟨hS1,hS2⟩:=hS
 rw [List.length_map,List.take_length,← hder] at hS1
 rw [hS1]
 obtain ⟨es,rs⟩:=S
 have kes:=Ed.closedL' es
 have krs:=Pat.closedL' rs
 have hel:=zp Ed.enc es
 have hrl:=zp Pat.enc rs
 dsimp only [List.cons_append,List.nil_append]
 clear hS2 hS1 hder hq pq
 obtain ⟨el,hE1⟩:∃ el,el=zy Ed.enc es:=⟨_,rfl⟩
 obtain ⟨rl,hR1⟩:∃ rl,rl=zy Pat.enc rs:=⟨_,rfl⟩
 obtain ⟨n,hn⟩:∃ n,n=es.length:=⟨_,rfl⟩
 obtain ⟨m,hm⟩:∃ m,m=rs.length:=⟨_,rfl⟩
 rw [← hE1,← hR1,← hn,← hm]
 rw [← hE1] at kes hel
 rw [← hR1] at krs hrl
 rw [← hn] at hel
 rw [← hm] at hrl
 refine Aq ?_
 refine zX rfl (by conv=>lhs;cbv) rfl ?_
 refine tgA ?_
 refine zK ⟨rfl,?_,?_⟩
 · simp only [zJ,zd,List.append_nil];and_intros<;>first | trivial | (intro hp;first | rfl | exact absurd (show false=true from hp) Bool.false_ne_true)
 refine Aq ?_
 refine wo (F2:=[(2,.iptr [.sl 0 17 0 n]),(3,.iptr [.isl 14 rl]),(4,.iptr [int 0])]) (H2:=[.arr 17 el]) (ya [.gone,.icells [.sl 0 17 0 n],.icells [.isl 14 rl],.icells [int 0],.gone,.gone,.gone,.to 0,.isl 14 rl] [some 7] ⟨trivial,⟨_,rfl,rfl⟩,⟨_,rfl,?_⟩,⟨_,rfl,rfl⟩,trivial,trivial,trivial,⟨by simp,rfl⟩,⟨_,rfl,(zw _ krs).symm⟩,trivial⟩ ⟨zR (b:=7) rfl rfl rfl rfl kes,trivial⟩ ⟨.refl _,.refl _,.refl _,trivial⟩) rfl (by subst hE1 hR1 hn hm;exact ⟨rfl,rfl⟩)
 show [AV.isl 14 rl]=[AV.sub _ _]
 rw [xf rfl hrl.symm]
theorem idx_nEv : ∀ (l:List Pat) (i:Int),yP (fun q=>decide (q.op≠0)) l i=if nEv l=l.length then -1 else i+nEv l
 | [],i=>rfl
 | q :: r,i=>by
  rw [yP,nEv,idx_nEv r (i+1)]
  by_cases h:q.op=0
  · have h2:uE q=true:=by simp [uE,h]
    rw [if_neg (by simp [h]),h2,if_pos rfl,List.length_cons]
    by_cases h3:nEv r=r.length
    · rw [if_pos h3,if_pos (by omega)]
    rw [if_neg h3,if_neg (by omega)];push_cast;omega
  have h2:uE q=false:=by simp [uE,h]
  rw [if_pos (by simp [h]),h2];simp
theorem P_divide1 (q:Pat):PCall EE 88 ([q.enc]++[]) (bool (decide (q.op≠0))):=by
 have kq:=Pat.closed q
 obtain ⟨qO,qA,qT,qV,qS,qN,qCo,qCa,qCv,qCf,qCk,qXk,qXn,qXt,hx,hxc,hqO,hqA,hqT,hqV,hqS,hqN⟩:=Pat.form2 q
 obtain ⟨R,hR⟩:∃ R,R=decide (q.op≠0):=⟨_,rfl⟩
 rw [← hR,hx,List.append_nil]
 rw [← hqO] at hR
 refine zo ?_;unhygienic intros
 have n0:iNe qO 0=R:=by simp only [ee];rw [hR,Bool.eq_iff_iff];simp
 refine fB T88 [.t 2] ?_
 have fz:=n0
 refine goC 60 ?_
 refine zP rfl rfl (.val ?_)
 first | rfl | exact congrArg Value.bool n0
theorem P_divide0 (p:Pat) (h:p.op≠1):PCall EE 44 [p.enc] (.tup [.isl 14 (zy Pat.enc p.pre),p.rst.enc,bool p.whl]):=by
 have hcl:=Pat.closed p
 have hp0:Pat0.enc=_:=Pat0.enc_eq
 have kp0:=Pat.closed Pat0
 have hE0:zy Pat.enc []=[]:=by rw [zu];rfl
 have hE1:zy Pat.enc [p]=[p.enc]:=by rw [zu];rfl
 by_cases h0:p.op=0
 · have e1:p.pre=[p]:=by rw [Pat.pre,if_pos h0]
   have e2:p.rst=Pat0:=by rw [Pat.rst,if_pos h0]
   have e3:p.whl=true:=by rw [Pat.whl,if_pos h0]
   rw [e1,e2,e3,hE1,hp0]
   obtain ⟨pO,pA,pT,pV,pS,pN,pCo,pCa,pCv,pCf,pCk,pXk,pXn,pXt,hx,hxc,hpO,hpA,hpT,hpV,hpS,hpN⟩:=Pat.form2 p
   rw [hx] at hcl ⊢
   have kcl:AV.closedL [int pO,.isl 14 pA,int pT,int pV,int pS,int pN,int pCo,.isl 8 pCa,int pCv,int pCf,int pCk,int pXk,int pXn,str pXt]=true:=by simpa only [AV.closed] using hcl
   refine zo ?_;unhygienic intros
   have n0:iEq pO 0=true:=by simp only [ee];simp [hpO,h0]
   refine fB T44 [.t 2,.cell 3 14 true,.t 4] ?_
   have fz:=n0
   refine Cq ?_
   refine goC 60 ?_
   refine zP rfl rfl ?_
   refine ⟨[.gone,.gone,.isl 14 [.agg [int pO,.isl 14 pA,int pT,int pV,int pS,int pN,int pCo,.isl 8 pCa,int pCv,int pCf,int pCk,int pXk,int pXn,str pXt]]],⟨trivial,trivial,⟨_,rfl,?_⟩,trivial⟩,?_⟩
   · rw [zw _ (zg hcl)]
   exact .tup' ⟨.refl _,.agg' ⟨.refl _,.nilI _,.refl _,.refl _,.refl _,.refl _,.refl _,.nilI _,.refl _,.refl _,.refl _,.refl _,.refl _,.refl _,trivial⟩,.refl _,trivial⟩
 have e1:p.pre=[]:=by rw [Pat.pre,if_neg h0,if_pos h]
 have e2:p.rst=p:=by rw [Pat.rst,if_neg h0,if_pos h]
 have e3:p.whl=false:=by rw [Pat.whl,if_neg h0,if_pos h]
 rw [e1,e2,e3,hE0]
 obtain ⟨pO,pA,pT,pV,pS,pN,pCo,pCa,pCv,pCf,pCk,pXk,pXn,pXt,hx,hxc,hpO,hpA,hpT,hpV,hpS,hpN⟩:=Pat.form2 p
 rw [hx] at hcl ⊢
 have kcl:AV.closedL [int pO,.isl 14 pA,int pT,int pV,int pS,int pN,int pCo,.isl 8 pCa,int pCv,int pCf,int pCk,int pXk,int pXn,str pXt]=true:=by simpa only [AV.closed] using hcl
 refine zo ?_;unhygienic intros
 have n0:iEq pO 0=false:=by simp only [ee];simp [hpO,h0]
 have n1:iNe pO 1=true:=by simp only [ee];simp [hpO,h]
 refine fB T44 [.t 2,.cell 3 14 true,.t 4] ?_
 have fz:=n0
 refine Cq ?_
 have fz:=And.intro n0 n1
 refine Cr ?_
 refine Cr ?_
 refine zX rfl (by conv=>lhs;cbv) rfl ?_
 refine tgA ?_
 refine zK ⟨rfl,?_,?_⟩
 · simp only [zJ,zd,List.append_nil];and_intros<;>first | trivial | (intro hp;first | rfl | exact absurd (show false=true from hp) Bool.false_ne_true)
 refine Aq ?_
 exact fE [.gone,.gone]
theorem P_divide2 (p:Pat) (h:p.op=1) (hl:p.args.length<900000) (h2:2≤p.args.length):PCall EE 44 [p.enc] (.tup [.isl 14 (zy Pat.enc p.pre),p.rst.enc,bool p.whl]):=by
 have hcl:=Pat.closed p
 have pi:=P_IndexFuncP 88 [] rfl (fun q=>decide (q.op≠0)) p.args (by omega) (fun q _=>P_divide1 q)
 rw [idx_nEv] at pi
 have hle:=t7 p.args
 have h0:p.op≠0:=by omega
 have e1:p.pre=p.args.take (nEv p.args):=by rw [Pat.pre,if_neg h0,if_neg (by omega)]
 have e3:p.whl=decide (nEv p.args=p.args.length):=by rw [Pat.whl,if_neg h0,if_neg (by omega)]
 have e2:p.rst=if nEv p.args=p.args.length then Pat0 else if nEv p.args=0 then p else xM 1 (p.args.drop (nEv p.args)):=by rw [Pat.rst,if_neg h0,if_neg (by omega)]
 rw [e1,e2,e3]
 have hE0:zy Pat.enc []=[]:=by rw [zu];rfl
 have hp0:Pat0.enc=_:=Pat0.enc_eq
 have ocT:=fun k=>O_CloneP (zy Pat.enc (p.args.take k)) (p.args.take k).length (by rw [zp]) (by rw [zp,List.length_take];omega) (Pat.closedL' _) (sV _)
 have ocD:=fun k=>O_CloneP (zy Pat.enc (p.args.drop k)) (p.args.drop k).length (by rw [zp]) (by rw [zp,List.length_drop];omega) (Pat.closedL' _) (sV _)
 have kT:=fun k=>Pat.closedL' (p.args.take k)
 have kD:=fun k=>Pat.closedL' (p.args.drop k)
 have lT:=fun k=>zp Pat.enc (p.args.take k)
 have lD:=fun k=>zp Pat.enc (p.args.drop k)
 have hel:=fun (k:Nat) (z:Pat) (hz:p.args[k]? = some z)=>show (zy Pat.enc p.args).getD k .undef=z.enc by rw [zu];simp [List.getD_eq_getElem?_getD,List.getElem?_map,hz]
 have hcutT:=fun k=>show (zy Pat.enc p.args).take k=zy Pat.enc (p.args.take k) by rw [zu,zu,List.map_take]
 have hcutD:=fun k=>show (zy Pat.enc p.args).drop k=zy Pat.enc (p.args.drop k) by rw [zu,zu,List.map_drop]
 have kI:=Pat.closedI p.args
 obtain ⟨pO,pA,pT,pV,pS,pN,pCo,pCa,pCv,pCf,pCk,pXk,pXn,pXt,hx,hxc,hpO,hpA,hpT,hpV,hpS,hpN⟩:=Pat.form2 p
 generalize hpa:p.args=pa at *
 rw [← hpA] at pi kI
 simp only [← hpA] at hcutT hcutD hel
 have hpl:pA.length=pa.length:=by rw [hpA,zp]
 have k0:pO=1:=by rw [hpO,h]
 rw [hx] at hcl ⊢
 have kcl:AV.closedL [int pO,.isl 14 pA,int pT,int pV,int pS,int pN,int pCo,.isl 8 pCa,int pCv,int pCf,int pCk,int pXk,int pXn,str pXt]=true:=by simpa only [AV.closed] using hcl
 generalize hm:nEv pa=m at *
 obtain ⟨v,hv⟩:∃ v,v=(if m=pa.length then (-1:Int) else 0+m):=⟨_,rfl⟩
 rw [← hv] at pi
 refine zo ?_;unhygienic intros
 have n0:iEq pO 0=false:=by simp only [ee];simp [k0]
 have n1:iNe pO 1=false:=by simp only [ee];simp [k0]
 refine fB T44 [.t 2,.cell 3 14 true,.t 4] ?_
 have fz:=n0
 refine Cq ?_
 have fz:=And.intro n0 n1
 refine Cr ?_
 refine Cr ?_
 refine zh (args:=[.isl 14 pA,.fn 88 []]) rfl rfl rfl pi (by rw [AV.closedL,AV.closedL,AV.closedL,kI];rfl) ?_
 by_cases c1:m=pa.length
 · have hv1:v = -1:=by rw [hv,if_pos c1]
   have n2:iEq v (-1)=true:=by simp only [ee];simp [hv1]
   have o1:=ocT pa.length
   rw [if_pos c1,c1,hp0,decide_eq_true rfl]
   rw [List.take_length] at o1 ⊢
   rw [← hpA] at o1 ⊢
   have fz:=n2
   refine Cq ?_
   refine Cr ?_
   refine wH (args:=[.isl 14 pA]) (v':=.sl 2 14 0 pa.length) (H':=[.arr 14 pA]) rfl rfl rfl o1 (zg kI) rfl (uC (by simpa only [AV.closed] using kI)) ?_
   generalize pa.length=pl at *
   refine Aq ?_
   refine zP rfl rfl ?_
   refine ⟨[.gone,.gone,.isl 14 pA],⟨trivial,trivial,⟨_,rfl,?_⟩,trivial⟩,?_⟩
   · rw [zw _ (by simpa only [AV.closed] using kI)]
   exact .tup' ⟨.of (xf rfl hpl.symm),.agg' ⟨.refl _,.nilI _,.refl _,.refl _,.refl _,.refl _,.refl _,.nilI _,.refl _,.refl _,.refl _,.refl _,.refl _,.refl _,trivial⟩,.refl _,trivial⟩
 have hv1:v=m:=by rw [hv,if_neg c1];omega
 have n2:iEq v (-1)=false:=by simp only [ee];simp;omega
 by_cases c2:m=0
 · have n3:iEq v 0=true:=by simp only [ee];simp [hv1,c2]
   rw [if_neg c1,if_pos c2,decide_eq_false c1,c2,List.take_zero,hE0,hx]
   have fz:=n2
   refine Cq ?_
   have fz:=And.intro n2 n3
   refine Cr ?_
   refine Cr ?_
   refine zX rfl (by conv=>lhs;cbv) rfl ?_
   refine tgA ?_
   refine zK ⟨rfl,?_,?_⟩
   · simp only [zJ,zd,List.append_nil];and_intros<;>first | trivial | (intro hp;first | rfl | exact absurd (show false=true from hp) Bool.false_ne_true)
   refine Aq ?_
   exact fE [.gone,.gone]
 have n3:iEq v 0=false:=by simp only [ee];simp;omega
 rw [if_neg c1,if_neg c2,decide_eq_false c1]
 have hw:iSub .i64 (lenA pA) 1=(pa.length:Int) - 1:=by simp only [ee];simp [IntKind.wrap_i64];omega
 generalize hw1:(pa.length:Int) - 1=w at *
 have hcT:cutA pA 0 v=zy Pat.enc (pa.take m):=by simp only [ee];rw [hv1];simp [hcutT]
 have o1:=ocT m
 have k1:=kT m
 have l1:=lT m
 rw [← hcT] at o1 k1 l1 ⊢
 generalize hn1:(pa.take m).length=tl at *
 have kcI:(AV.isl 14 (cutA pA 0 v)).closed=true:=by simpa only [AV.closed] using k1
 by_cases c3:m+1=pa.length
 · have n4:iEq v w=true:=by simp only [ee];simp;omega
   obtain ⟨z,hz⟩:∃ z,pa[m]? = some z:=⟨_,List.getElem?_eq_getElem (by omega)⟩
   have hdz:pa.drop m=[z]:=by
    have hlt:m<pa.length:=by omega
    rw [List.drop_eq_getElem_cons hlt,(List.getElem?_eq_some_iff.1 hz).2,List.drop_of_length_le (by omega)]
   have kz:=Pat.closed z
   have hzA:atA pA v=z.enc:=by simp only [ee];rw [hv1];exact hel m z hz
   rw [hdz,listP_one]
   obtain ⟨zO,zA,zT,zV,zS,zN,zCo,zCa,zCv,zCf,zCk,zXk,zXn,zXt,hzf⟩:=Pat.form z
   rw [hzf] at kz hzA ⊢
   have fz:=n2
   refine Cq ?_
   have fz:=And.intro n2 n3
   refine Cr ?_
   have fz:=And.intro n3 (And.intro hw n4)
   refine Cr ?_
   have fz:=And.intro hw n4
   refine Cr ?_
   refine zX rfl (by conv=>lhs;cbv) rfl ?_
   refine tgA ?_
   refine tr_ocall (v':=.sl 2 14 0 tl) (H':=[.arr 14 (cutA pA 0 v)]) rfl rfl rfl o1 (zg kcI) rfl (uC k1) ?_
   have fz:=hzA
   refine tgC ?_
   refine zK ⟨rfl,?_,?_⟩
   · simp only [zJ,zd,List.cons_append,List.nil_append,List.append_nil];and_intros<;>first | trivial | (intro hp;first | rfl | exact absurd (show false=true from hp) Bool.false_ne_true)
   refine Aq ?_
   refine zP rfl rfl ?_
   exact ⟨[.gone,.gone,.isl 14 (cutA pA 0 v)],⟨trivial,trivial,⟨_,rfl,(zw _ k1).symm⟩,trivial⟩,.tup' ⟨.of (xf rfl l1.symm),.cl kz,.refl _,trivial⟩⟩
 have n4:iEq v w=false:=by simp only [ee];simp;omega
 have fz:=n2
 refine Cq ?_
 have fz:=And.intro n2 n3
 refine Cr ?_
 have fz:=And.intro n3 (And.intro hw n4)
 refine Cr ?_
 have fz:=And.intro hw n4
 refine Cr ?_
 refine Cr ?_
 have hcD:cutA pA v (lenA pA)=zy Pat.enc (pa.drop m):=by
  simp only [ee]
  rw [hv1,← hcutD,Int.toNat_natCast,Int.toNat_natCast,List.take_length]
 have o2:=ocD m
 have k2:=kD m
 have l2:=lD m
 have hdl:(pa.drop m).length≠1:=by rw [List.length_drop];omega
 rw [listP_enc 1 _ hdl]
 rw [← hcD] at o2 k2 l2 ⊢
 generalize (pa.drop m).length=dl at *
 have kcD:(AV.isl 14 (cutA pA v (lenA pA))).closed=true:=by simpa only [AV.closed] using k2
 refine zX rfl (by conv=>lhs;cbv) rfl ?_
 refine tgA ?_
 refine tr_ocall (v':=.sl 2 14 0 tl) (H':=[.arr 14 (cutA pA 0 v)]) rfl rfl rfl o1 (zg kcI) rfl (uC k1) ?_
 refine tgA ?_
 refine tr_ocall (v':=.sl 3 14 0 dl) (H':=[.arr 14 (cutA pA v (lenA pA))]) rfl rfl rfl o2 (zg kcD) rfl (uC k2) ?_
 refine tgA ?_
 refine zK ⟨rfl,?_,?_⟩
 · simp only [zJ,zd,List.cons_append,List.nil_append,List.append_nil];and_intros<;>first | trivial | (intro hp;first | rfl | exact absurd (show false=true from hp) Bool.false_ne_true)
 refine Aq ?_
 refine zP rfl rfl ?_
 exact ⟨[.gone,.gone,.isl 14 (cutA pA 0 v),.isl 14 (cutA pA v (lenA pA))],⟨trivial,trivial,⟨_,rfl,(zw _ k1).symm⟩,⟨_,rfl,(zw _ k2).symm⟩,trivial⟩,.tup' ⟨.of (xf rfl l1.symm),.agg' ⟨.refl _,.of (xf rfl l2.symm),.refl _,.refl _,.refl _,.refl _,.refl _,.nilI _,.refl _,.refl _,.refl _,.refl _,.refl _,.refl _,trivial⟩,.refl _,trivial⟩⟩
theorem sJ {p:Pat} (h:p.chk=0):p.args.length≤64∧(p.op=1→2≤p.args.length):=by
 have hw:p.wholeE=0:=by
  unfold Pat.chk at h
  split at h
  · exact absurd h (by assumption)
  rename_i h1;simpa using h1
 obtain ⟨h1,h2,_⟩:=wholeE_ok hw
 have hc:p.cnt≤64:=by
  unfold Pat.chkR at h1
  split at h1
  · cases h1
  omega
 have hl:p.args.length≤64:=by
  obtain ⟨o,a,t,v,s,n,c⟩:=p
  have:=Pat.cntL_len a
  simp [Pat.cnt] at hc
  exact Nat.le_trans this (by omega)
 refine ⟨hl,fun ho=>?_⟩
 have h3:=h2 p (by rw [Pat.nodes_eq];simp)
 rw [nodeE_red p hl] at h3
 rw [if_neg (by omega)] at h3
 by_cases hx:2≤p.args.length
 · exact hx
 rw [if_pos (by rw [if_neg (by omega),if_pos (by omega)];exact hx)] at h3
 cases h3
theorem P_divide (p:Pat) (h:p.chk=0):PCall EE 44 [p.enc] (.tup [.isl 14 (zy Pat.enc p.pre),p.rst.enc,bool p.whl]):=by
 obtain ⟨h1,h2⟩:=sJ h
 by_cases ho:p.op=1
 · exact P_divide2 p ho (by omega) (h2 ho)
 exact P_divide0 p ho
theorem P_Split (p:Pat) (hs:p.Sm):PCall EE 13 [p.enc] (if p.chk=0 then .tup [.isl 14 (zy Pat.enc p.pre),p.rst.enc,bool p.whl,int 0] else .tup [.isl 14 [],Pat0.enc,bool false,int p.chk]):=by
 have pc:=P_pattern_Check p hs
 have hcl:=Pat.closed p
 have hp0:Pat0.enc=_:=Pat0.enc_eq
 by_cases hc:p.chk=0
 · rw [if_pos hc]
   have pd:=P_divide p hc
   rw [hc] at pc
   have kI:=Pat.closedI p.pre
   have kr:=Pat.closed p.rst
   generalize zy Pat.enc p.pre=el at *
   generalize p.whl=wb at *
   generalize p.rst=r at *
   obtain ⟨rO,rA,rT,rV,rS,rN,rCo,rCa,rCv,rCf,rCk,rXk,rXn,rXt,hr⟩:=Pat.form r
   obtain ⟨pO,pA,pT,pV,pS,pN,pCo,pCa,pCv,pCf,pCk,pXk,pXn,pXt,hx⟩:=Pat.form p
   rw [hx] at hcl pc pd ⊢
   rw [hr] at pd kr ⊢
   refine zo ?_;unhygienic intros
   have k0:iNe 0 0=false:=by simp only [ee];rfl
   refine fB T13 [.t 2,.cell 3 14 true,.t 4,.t 5] ?_
   refine Aq ?_
   refine zh (args:=[.agg [int pO,.isl 14 pA,int pT,int pV,int pS,int pN,int pCo,.isl 8 pCa,int pCv,int pCf,int pCk,int pXk,int pXn,str pXt]]) rfl rfl rfl pc (zg hcl) ?_
   have fz:=k0
   refine Cq ?_
   refine goC 60 ?_
   refine zh (args:=[.agg [int pO,.isl 14 pA,int pT,int pV,int pS,int pN,int pCo,.isl 8 pCa,int pCv,int pCf,int pCk,int pXk,int pXn,str pXt]]) rfl rfl rfl pd (zg hcl) ?_
   refine Aq ?_
   refine zX rfl (by conv=>lhs;cbv) rfl ?_
   refine tgA ?_
   refine zK ⟨rfl,?_,?_⟩
   · simp only [zJ,zd,List.append_nil];and_intros<;>first | trivial | (intro hp;first | rfl | exact absurd (show false=true from hp) Bool.false_ne_true)
   refine Aq ?_
   refine zP rfl rfl ?_
   exact tu rfl (by rw [AV.closed,AV.closedL,AV.closedL,kI,kr];rfl)
 rw [if_neg hc,hp0]
 generalize p.chk=c at *
 obtain ⟨pO,pA,pT,pV,pS,pN,pCo,pCa,pCv,pCf,pCk,pXk,pXn,pXt,hx⟩:=Pat.form p
 rw [hx] at hcl pc ⊢
 refine zo ?_;unhygienic intros
 have k0:iNe c 0=true:=by simp only [ee];simpa using hc
 refine fB T13 [.t 2,.cell 3 14 true,.t 4,.t 5] ?_
 refine Aq ?_
 refine zh (args:=[.agg [int pO,.isl 14 pA,int pT,int pV,int pS,int pN,int pCo,.isl 8 pCa,int pCv,int pCf,int pCk,int pXk,int pXn,str pXt]]) rfl rfl rfl pc (zg hcl) ?_
 have fz:=k0
 refine Cq ?_
 refine goC 60 ?_
 refine zP rfl rfl ?_
 exact ⟨[.gone,.gone],⟨trivial,trivial,trivial⟩,.tup' ⟨.nilI _,.agg' ⟨.refl _,.nilI _,.refl _,.refl _,.refl _,.refl _,.refl _,.nilI _,.refl _,.refl _,.refl _,.refl _,.refl _,.refl _,trivial⟩,.refl _,.refl _,trivial⟩⟩
theorem P_child1 (x b:Br) (hx:x.cond.Sm):PCall EE 97 ([x.enc]++[.iptr b.enc.cells]) (bool (wJ x b)):=by
 have h1:=wi x.cond b.cond hx
 have kx:=x.closed
 have kb:=b.closed
 have kc:=Ex.closed x.cond
 have jc:=Ex.closed b.cond
 obtain ⟨co,ec,cv,cf,ck,xk,xn,xt,he,hec⟩:=x.form
 obtain ⟨co2,ec2,cv2,cf2,ck2,xk2,xn2,xt2,he2,hec2⟩:=b.form
 unfold wJ
 rw [hec] at kc h1
 rw [hec2] at jc h1
 rw [he,hec2] at *
 rw [he2] at kb ⊢
 generalize eqB x.cond b.cond=b3 at *
 generalize zy Tl.enc x.queries=q1 at *
 generalize zy Tl.enc b.queries=q2 at *
 dsimp only [AV.cells,List.cons_append,List.nil_append]
 refine zo ?_;unhygienic intros
 have n1:iEq x.parent b.parent=decide (x.parent=b.parent):=by simp only [ee];rfl
 have n2:iEq x.ty b.ty=decide (x.ty=b.ty):=by simp only [ee];rfl
 generalize decide (x.parent=b.parent)=b1 at *
 generalize decide (x.ty=b.ty)=b2 at *
 have n12:bAnd b1 b2=(b1 && b2):=by simp only [ee]
 generalize (b1 && b2)=u at *
 obtain ⟨R,hR⟩:∃ R,R=(u && b3):=⟨_,rfl⟩
 rw [← hR]
 refine fB T97 [.t 3] ?_
 have fz:=And.intro n1 (And.intro n2 n12)
 refine Cq ?_
 cases u with
 | false =>
  refine goA 9 ?_
  refine goA 9 ?_
  exact fBo (h:=by rw [hR];rfl)
 | true =>
  refine Aq ?_
  refine xv (args:=[.agg [int co,.isl 8 ec,int cv,int cf,int ck,int xk,int xn,str xt],.agg [int co2,.isl 8 ec2,int cv2,int cf2,int ck2,int xk2,int xn2,str xt2]]) rfl rfl rfl rfl h1 (by simp only [AV.closedL,kc,jc];rfl) ?_
  refine goA 9 ?_
  exact fBo (h:=by rw [hR];rfl)
def rQ : List Tl→AV
 | []=>.val (.slice none 0 0)
 | q=>.isl 4 (zy Tl.enc q)
def Br.row (x:Br):AV:=.agg ([int x.parent,int x.ty]++x.cond.enc.cells++[rQ x.queries])
theorem qrow_cl (q:List Tl):(rQ q).closed=true:=by
 cases q with
 | nil=>rfl
 | cons t r=>exact Tl.closedI (t :: r)
theorem Br.rform (x:Br):∃ co ec cv cf ck xk xn xt qq,x.row=.agg [int x.parent,int x.ty,int co,.isl 8 ec,int cv,int cf,int ck,int xk,int xn,str xt,qq]∧x.cond.enc=.agg [int co,.isl 8 ec,int cv,int cf,int ck,int xk,int xn,str xt]∧qq=rQ x.queries:=by
 obtain ⟨co,ec,cv,cf,ck,xk,xn,xt,h⟩:=Ex.form x.cond
 exact ⟨co,ec,cv,cf,ck,xk,xn,xt,_,by rw [Br.row,h];rfl,h,rfl⟩
theorem Br.rclosed (x:Br):x.row.closed=true:=by
 obtain ⟨co,ec,cv,cf,ck,xk,xn,xt,qq,h,hc,hq⟩:=x.rform
 have hcl:=Ex.closed x.cond
 rw [hc] at hcl
 have h1:=qrow_cl x.queries
 rw [← hq] at h1
 rw [h]
 simp only [AV.closed,AV.closedL,Bool.and_true,Bool.true_and,Bool.and_eq_true] at *
 simp_all
theorem Br.rowI (l:List Br):(AV.isl 11 (zy Br.row l)).closed=true:=yU Br.rclosed l
theorem Br.row_wk (M:Nat) (x:Br):Wk M x.row x.enc:=by
 obtain ⟨co,ec,cv,cf,ck,xk,xn,xt,qq,h,hc,hq⟩:=x.rform
 obtain ⟨co2,ec2,cv2,cf2,ck2,xk2,xn2,xt2,h2,hc2⟩:=x.form
 rw [hc] at hc2
 injection hc2 with hc3
 simp only [List.cons.injEq] at hc3
 rw [h,h2]
 have hqw:Wk M qq (.isl 4 (zy Tl.enc x.queries)):=by
  rw [hq]
  cases x.queries with
  | nil=>rw [show zy Tl.enc []=[] by rw [zu];rfl];exact .nilI _
  | cons t r=>exact .refl _
 obtain ⟨e1,e2,e3,e4,e5,e6,e7,e8,_⟩:=hc3
 rw [← e1,← e2,← e3,← e4,← e5,← e6,← e7,← e8]
 exact .agg' ⟨.refl _,.refl _,.refl _,.refl _,.refl _,.refl _,.refl _,.refl _,.refl _,.refl _,hqw,trivial⟩
theorem rows_wk (M:Nat):∀ l:List Br,WkL M (zy Br.row l) (zy Br.enc l):=by
 intro l
 rw [zu,zu]
 induction l with
 | nil=>trivial
 | cons x r ih=>exact ⟨x.row_wk M,ih⟩
theorem P_IndexFuncR (g:FuncId) (cs:List AV) (hcs:AV.closedL cs=true) (f:Br→Bool) (l:List Br) (hl:l.length<1048577) (hg:∀ x∈l,PCall EE g ([Br.row x]++cs) (bool (f x))):PCall EE 96 [.isl 11 (zy Br.row l),.fn g cs] (int (yP f l 0)):=by
 obtain ⟨j,hj⟩:∃ j,j=yP f l 0:=⟨_,rfl⟩
 rw [← hj]
 have hcl:=Br.rowI l
 have hfn:(AV.fn g cs).closed=true:=by simp [AV.closed,hcs]
 have hcq:=fun (q:Br) (h:q∈l)=>AV.closedL_mem (show AV.closedL (zy Br.row l)=true by simpa only [AV.closed] using hcl) (Br.row q) (by rw [zu];exact List.mem_map_of_mem h)
 refine zo ?_;unhygienic intros
 generalize hes:zy Br.row l=es at *
 have hel:es.length=l.length:=by rw [← hes,zp]
 refine fB T96 [.t 4] ?_
 refine Aq ?_
 refine ze (ι:=List Br × List Br × Int) (fun p=>([(8,int p.2.2),(7,int (lenA es)),(0,.isl 11 es),(1,.fn g cs)],[])) (fun p=>l=p.1++p.2.1∧p.2.2=p.1.length∧j=yP f p.2.1 p.2.2) (fun p=>p.2.1.length) ([],l,0) ⟨rfl,rfl,hj⟩ ?_ ?_
 · exact (eS [] [])
 rintro ⟨d,r,i⟩ ⟨g1,gi,gv⟩
 dsimp only at g1 gi gv ⊢
 cases r with
 | nil =>
  have L1:=lS g1
  have hc:iLt i (lenA es)=false:=xR e_iLt e_lenA (by omega)
  rw [yP] at gv
  have fz:=hc
  refine Cq ?_
  refine Aq ?_
  refine zk ?_
  refine Aq ?_
  exact fI (h:=gv.symm)
 | cons q r =>
  have L1:=lS g1
  have hc:iLt i (lenA es)=true:=xU e_iLt e_lenA (by omega)
  have hat:=yX e_atA hes g1 gi
  have hq:=hg q (by rw [g1];simp)
  have hqc:=hcq q (by rw [g1];simp)
  have hi2:iAdd .i64 i 1=((d++[q]).length:Int):=by rw [List.length_append];exact yh e_iAdd gi (by omega)
  rw [yP] at gv
  obtain ⟨co,ec,cv,cf,ck,xk,xn,xt,qq,hx,hxc⟩:=Br.rform q
  rw [hx] at hat hq hqc
  cases hfq:f q with
  | true =>
   rw [hfq] at hq gv
   rw [if_pos rfl] at gv
   have fz:=And.intro hc hat
   refine Cq ?_
   refine Cr ?_
   refine yK (args:=[.agg [int q.parent,int q.ty,int co,.isl 8 ec,int cv,int cf,int ck,int xk,int xn,str xt,qq]]++cs) rfl rfl rfl rfl hq (by simp only [List.cons_append,List.nil_append,AV.closedL,hqc,hcs];rfl) ?_
   refine Cq ?_
   refine Aq ?_
   refine zf ?_
   refine Aq ?_
   exact fI (h:=gv.symm)
  | false =>
   rw [hfq] at hq gv
   rw [if_neg (by decide)] at gv
   have gv2:j=yP f r (iAdd .i64 i 1):=by rw [gv,hi2,gi];simp
   have fz:=And.intro hc hat
   refine Cq ?_
   refine Cr ?_
   refine yK (args:=[.agg [int q.parent,int q.ty,int co,.isl 8 ec,int cv,int cf,int ck,int xk,int xn,str xt,qq]]++cs) rfl rfl rfl rfl hq (by simp only [List.cons_append,List.nil_append,AV.closedL,hqc,hcs];rfl) ?_
   refine Cq ?_
   refine Aq ?_
   refine zm (d++[q],r,iAdd .i64 i 1) ⟨by simp [g1],hi2,gv2⟩ (by simp) (eS [] [])
theorem P_child1R (x b:Br) (hx:x.cond.Sm):PCall EE 97 ([x.row]++[.iptr b.row.cells]) (bool (wJ x b)):=by
 have h1:=wi x.cond b.cond hx
 have kx:=x.rclosed
 have kb:=b.rclosed
 have kc:=Ex.closed x.cond
 have jc:=Ex.closed b.cond
 obtain ⟨co,ec,cv,cf,ck,xk,xn,xt,q1,he,hec,hq1⟩:=x.rform
 obtain ⟨co2,ec2,cv2,cf2,ck2,xk2,xn2,xt2,q2,he2,hec2,hq2⟩:=b.rform
 unfold wJ
 rw [hec] at kc h1
 rw [hec2] at jc h1
 rw [he]
 rw [he2]
 generalize eqB x.cond b.cond=b3 at *
 have hone:AV.one q1=true:=by rw [hq1];cases x.queries<;>rfl
 have hone2:AV.one q2=true:=by rw [hq2];cases b.queries<;>rfl
 clear hq1 hq2 kx kb he he2
 dsimp only [AV.cells,List.cons_append,List.nil_append]
 refine zo ?_;unhygienic intros
 have n1:iEq x.parent b.parent=decide (x.parent=b.parent):=by simp only [ee];rfl
 have n2:iEq x.ty b.ty=decide (x.ty=b.ty):=by simp only [ee];rfl
 generalize decide (x.parent=b.parent)=b1 at *
 generalize decide (x.ty=b.ty)=b2 at *
 have n12:bAnd b1 b2=(b1 && b2):=by simp only [ee]
 generalize (b1 && b2)=u at *
 obtain ⟨R,hR⟩:∃ R,R=(u && b3):=⟨_,rfl⟩
 rw [← hR]
 refine fB T97 [.t 3] ?_
 refine go rfl hX 0 (by conv=>lhs;cbv;try simp only [n1,n2,n12];cbv;try simp only [n1,n2,n12];cbv;try simp only [n1,n2,n12];cbv;try simp only [n1,n2,n12];cbv) ?_ ?_
 · simp only [Cd.ok];(simp only [List.all_cons,List.all_nil,hone];rfl)
 cases u with
 | false =>
  refine goA 9 ?_
  refine goA 9 ?_
  exact fBo (h:=by rw [hR];rfl)
 | true =>
  refine Aq ?_
  refine xv (args:=[.agg [int co,.isl 8 ec,int cv,int cf,int ck,int xk,int xn,str xt],.agg [int co2,.isl 8 ec2,int cv2,int cf2,int ck2,int xk2,int xn2,str xt2]]) rfl rfl rfl rfl h1 (by simp only [AV.closedL,kc,jc];rfl) ?_
  refine goA 9 ?_
  exact fBo (h:=by rw [hR];rfl)
theorem P_childR (l:List Br) (b:Br) (hs:∀ x∈l,x.cond.Sm) (hl:l.length<1048577):PCall EE 50 [.isl 11 (zy Br.row l),b.row] (int (yP (fun x=>wJ x b) l 0)):=by
 have h1:=P_IndexFuncR 97 [.iptr b.row.cells] (zg (by
  obtain ⟨co,ec,cv,cf,ck,xk,xn,xt,qq,he,hec,hqq⟩:=b.rform
  have:=b.rclosed
  rw [he] at this ⊢
  simpa [AV.cells,AV.closed,AV.closedL] using this)) (fun x=>wJ x b) l hl (fun x hx=>P_child1R x b (hs x hx))
 have hcl:=b.rclosed
 have kl:=Br.rowI l
 obtain ⟨co,ec,cv,cf,ck,xk,xn,xt,qq,he,hec,hqq⟩:=b.rform
 rw [he] at hcl h1 ⊢
 dsimp only [AV.cells] at h1
 have hone:AV.one qq=true:=by rw [hqq];cases b.queries<;>rfl
 have hone2:=hone
 clear hqq
 have kcl:AV.closedL [int b.parent,int b.ty,int co,.isl 8 ec,int cv,int cf,int ck,int xk,int xn,str xt,qq]=true:=by simpa only [AV.closed] using hcl
 generalize zy Br.row l=es at *
 generalize yP (fun x=>wJ x b) l 0=R at *
 refine zo ?_;unhygienic intros
 refine fB T50 [.t 4] ?_
 refine go rfl hX 60 (by conv=>lhs;cbv;try simp only [];cbv;try simp only [];cbv;try simp only [];cbv;try simp only [];cbv) ?_ ?_
 · simp only [Cd.ok];(simp only [List.all_cons,List.all_nil,hone];rfl)
 refine wW (wX (F':=[(6,.fn 97 [.iptr [int b.parent,int b.ty,int co,.isl 8 ec,int cv,int cf,int ck,int xk,int xn,str xt,qq]]),(5,.isl 11 es)]) 0 [.icells [int b.parent,int b.ty,int co,.isl 8 ec,int cv,int cf,int ck,int xk,int xn,str xt,qq]] rfl trivial ⟨⟨_,rfl,(zw _ kcl).symm⟩,trivial⟩ ⟨.refl _,.cl kl,trivial⟩ (by simp)) ?_
 refine zh (args:=[.isl 11 es,.fn 97 [.iptr [int b.parent,int b.ty,int co,.isl 8 ec,int cv,int cf,int ck,int xk,int xn,str xt,qq]]]) rfl rfl rfl h1 (by rw [AV.closedL,AV.closedL,AV.closedL,kl,closed_fnI _ kcl];rfl) ?_
 refine Aq ?_
 exact fV
end Go.Am
end
