/- Contracts of the program's functions. -/
import Derived.Test.YtpdmaimjllhooaaGreatDoorCards
import Derived.Test.YtpdmaimjllhooaaGreatDoorProg
import Derived.Test.YtpdmaimjllhooaaGreatDoorRows
import Derived.Test.YtpdmaimjllhooaaGreatDoorTie
import Derived.Test.YtpdmaimjllhooaaGreatDoorPCt3
import Derived.Test.YtpdmaimjllhooaaGreatDoorPCt4
section
set_option maxHeartbeats 16000000
set_option maxRecDepth 100000
namespace Go.Am
open Go.Proofs
def ud : List Bs→List Sch→Int
 | _,[]=>0
 | seen,q :: r=>if q.chk≠0 then q.chk else if q.nm∈seen then 7 else ud (seen++[q.nm]) r
def zU (l:List Sch):Int:=if 16<l.length then 5 else ud [] l
theorem chkL_zero : ∀ (r:List Sch) (s:List Bs),ud s r=0↔(∀ q∈r,q.chk=0)∧(r.map Sch.nm).Nodup∧∀ q∈r,q.nm∉s
 | [],s=>by simp [ud]
 | f :: r,s=>by
  rw [ud]
  have ih:=chkL_zero r (s++[f.nm])
  by_cases h1:f.chk≠0
  · rw [if_pos h1]
    constructor
    · intro h;exact absurd h h1
    rintro ⟨h,_⟩;exact h f (by simp)
  rw [if_neg h1]
  by_cases h2:f.nm∈s
  · rw [if_pos h2];simp [h2]
  rw [if_neg h2,ih]
  constructor
  · rintro ⟨a,b,c⟩
    refine ⟨fun g hg=>?_,?_,fun g hg=>?_⟩
    · rcases List.mem_cons.1 hg with rfl | hg
      · simpa using h1
      exact a g hg
    · rw [List.map_cons,List.nodup_cons]
      refine ⟨fun h=>?_,b⟩
      obtain ⟨g,hg,e⟩:=List.mem_map.1 h
      exact c g hg (by simp [e])
    rcases List.mem_cons.1 hg with rfl | hg
    · exact h2
    intro h;exact c g hg (by simp [h])
  rintro ⟨a,b,c⟩
  rw [List.map_cons,List.nodup_cons] at b
  refine ⟨fun g hg=>a g (by simp [hg]),b.2,fun g hg h=>?_⟩
  rcases List.mem_append.1 h with h | h
  · exact c g (by simp [hg]) h
  simp at h
  exact b.1 (List.mem_map.2 ⟨g,hg,h⟩)
theorem chkAll_zero (l:List Sch):zU l=0↔l.length≤16∧(∀ q∈l,q.chk=0)∧(l.map Sch.nm).Nodup:=by
 rw [zU]
 by_cases h:16<l.length
 · rw [if_pos h]
   constructor
   · intro h;cases h
   rintro ⟨h,_⟩;omega
 rw [if_neg h,chkL_zero]
 constructor
 · rintro ⟨a,b,_⟩;exact ⟨by omega,a,b⟩
 rintro ⟨_,a,b⟩;exact ⟨a,b,by simp⟩
def wd (o:Int):Int:=if o=0 then 0 else if o=1∨o=2∨o=3∨o=8 then 2 else 1
def vc (o:Int):Int:=if o=0 then 0 else if o=1∨o=2∨o=3 then 64 else if o=8 then 2 else 1
def zJ (o:Int):Bool:=decide (o=0∨o=5∨o=9)
def xP (o:Int):Bool:=decide (o=0∨o=5∨o=7∨o=9)
def yP (o:Int):Bool:=decide (o=5∨o=6∨o=9∨o=10)
def xx (o:Int):Bool:=decide (o=6∨o=10)
theorem shape_row {o:Int} (h0:0≤o) (h1:o<11):Wd.rowA (Classical.choice wW).g o 6=[int (wd o),int (vc o),bool (zJ o),bool (xP o),bool (yP o),bool (xx o)]:=by
 rw [(Classical.choice wW).h]
 obtain ⟨n,rfl⟩:∃ n:Nat,o=n:=⟨o.toNat,by omega⟩
 have:n<11:=by omega
 match n,this with
 | 0,_ | 1,_ | 2,_ | 3,_ | 4,_ | 5,_ | 6,_ | 7,_ | 8,_ | 9,_ | 10,_=>rfl
theorem P_within (u:Bool) (n m:Int):PCall EE 173 [bool u,int n,int m] (bool (decide (u=false∨(0≤n∧n≤m)))):=by
 obtain ⟨R,hR⟩:∃ R,R=decide (u=false∨(0≤n∧n≤m)):=⟨_,rfl⟩
 rw [← hR]
 refine zt ?_;unhygienic intros
 refine fB T173 [.t 6] ?_
 refine goA 0 ?_
 refine nsB hX (by conv=>lhs;cbv) ?_
 refine Aq ?_
 exact fBo (h:=by rw [hR,Bool.eq_iff_iff];simp [ee])
theorem P_unused (u:Bool) (n:Int):PCall EE 175 [bool u,int n] (bool (decide (u=true∨n=0))):=by
 obtain ⟨R,hR⟩:∃ R,R=decide (u=true∨n=0):=⟨_,rfl⟩
 rw [← hR]
 refine zt ?_;unhygienic intros
 refine fB T175 [.t 4] ?_
 refine Aq ?_
 exact fBo (h:=by rw [hR,Bool.eq_iff_iff];simp [ee])
def Ex0 : Ex:=.mk 0 [] 0 0 0 Vl0
noncomputable def Pat.nodeE (p:Pat):Int:=open Classical in
 if p.op<0∨11≤p.op then 1
 else if (p.args.length:Int)<wd p.op∨vc p.op<p.args.length then 15
 else if (zJ p.op=true∧(p.ty<0∨15<p.ty∨p.var<0∨15<p.var))∨(yP p.op=true∧(p.scope<0∨63<p.scope))∨(xx p.op=true∧(p.span<0∨1099511627776<p.span)) then 2
 else if xP p.op=true∧p.cond.chk≠0 then p.cond.chk
 else if (xP p.op=false∧p.cond≠Ex0)∨(zJ p.op=false∧(p.ty≠0∨p.var≠0))∨(yP p.op=false∧p.scope≠0)∨(xx p.op=false∧p.span≠0) then 3
 else 0
theorem Ex0.enc_eq : Ex0.enc=.agg [int 0,.isl 8 [],int 0,int 0,int 0,int 0,int 0,str ⟨#[]⟩]:=by
 rw [Ex0,Ex.enc_mk,zn];rfl
theorem nil_ex0 : WkL 0 [.agg [int 0,.val (.slice none 0 0),int 0,int 0,int 0,int 0,int 0,str ⟨#[]⟩]] [Ex0.enc]:=by
 rw [Ex0.enc_eq]
 exact ⟨.agg' ⟨.refl _,.nilI 8,.refl _,.refl _,.refl _,.refl _,.refl _,.refl _,trivial⟩,trivial⟩
theorem P_check (p:Pat) (hs:p.Sm):PCall EE 154 [p.enc] (int p.nodeE):=by
 have hlen:p.args.length<1048576:=by obtain ⟨o,a,t,v,s,n,c⟩:=p;exact hs.len
 have hck:=P_expr_Check p.cond hs.cond'
 have hsm:PCall EE 174 [p.cond.enc,.agg [int 0,.val (.slice none 0 0),int 0,int 0,int 0,int 0,int 0,str ⟨#[]⟩]] (bool (eqB p.cond Ex0)):=(P_expr_Same p.cond Ex0 hs.cond').weak ⟨.refl _,nil_ex0⟩
 obtain ⟨sB,hsB⟩:∃ b,b=eqB p.cond Ex0:=⟨_,rfl⟩
 have hsB2:sB=true↔p.cond=Ex0:=by rw [hsB];exact eqB_iff
 rw [← hsB] at hsm
 have hcl:=Pat.closed p
 have hclc:=Ex.closed p.cond
 obtain ⟨R,hR⟩:∃ R,R=p.nodeE:=⟨_,rfl⟩
 rw [← hR]
 unfold Pat.nodeE at hR
 generalize p.cond.chk=ce at *
 have hrow:=@shape_row p.op
 generalize wd p.op=lo at *
 generalize vc p.op=mo at *
 generalize zJ p.op=ty at *
 generalize xP p.op=cd at *
 generalize yP p.op=sc at *
 generalize xx p.op=sp at *
 obtain ⟨b1,e1,w1⟩:∃ b,(b=true↔ty=false∨0≤p.ty∧p.ty≤15)∧PCall EE 173 [bool ty,int p.ty,int 15] (bool b):=⟨_,decide_eq_true_iff,P_within _ _ _⟩
 obtain ⟨b2,e2,w2⟩:∃ b,(b=true↔ty=false∨0≤p.var∧p.var≤15)∧PCall EE 173 [bool ty,int p.var,int 15] (bool b):=⟨_,decide_eq_true_iff,P_within _ _ _⟩
 obtain ⟨b3,e3,w3⟩:∃ b,(b=true↔sc=false∨0≤p.scope∧p.scope≤63)∧PCall EE 173 [bool sc,int p.scope,int 63] (bool b):=⟨_,decide_eq_true_iff,P_within _ _ _⟩
 obtain ⟨b4,e4,w4⟩:∃ b,(b=true↔sp=false∨0≤p.span∧p.span≤1099511627776)∧PCall EE 173 [bool sp,int p.span,int 1099511627776] (bool b):=⟨_,decide_eq_true_iff,P_within _ _ _⟩
 obtain ⟨u1,f1,v1⟩:∃ b,(b=true↔ty=true∨p.ty=0)∧PCall EE 175 [bool ty,int p.ty] (bool b):=⟨_,decide_eq_true_iff,P_unused _ _⟩
 obtain ⟨u2,f2,v2⟩:∃ b,(b=true↔ty=true∨p.var=0)∧PCall EE 175 [bool ty,int p.var] (bool b):=⟨_,decide_eq_true_iff,P_unused _ _⟩
 obtain ⟨u3,f3,v3⟩:∃ b,(b=true↔sc=true∨p.scope=0)∧PCall EE 175 [bool sc,int p.scope] (bool b):=⟨_,decide_eq_true_iff,P_unused _ _⟩
 obtain ⟨u4,f4,v4⟩:∃ b,(b=true↔sp=true∨p.span=0)∧PCall EE 175 [bool sp,int p.span] (bool b):=⟨_,decide_eq_true_iff,P_unused _ _⟩
 have hR1:(p.op<0∨11≤p.op)→R=1:=fun h=>by rw [hR,if_pos h]
 have hR15:¬(p.op<0∨11≤p.op)→((p.args.length:Int)<lo∨mo<p.args.length)→R=15:=fun h h2=>by rw [hR,if_neg h,if_pos h2]
 have hR2:¬(p.op<0∨11≤p.op)→¬((p.args.length:Int)<lo∨mo<p.args.length)→(b1=false∨b2=false∨b3=false∨b4=false)→R=2:=fun h h2 h3=>by
  rw [hR,if_neg h,if_neg h2,if_pos]
  clear hR hR1 hR15 hck hsm hrow w1 w2 w3 w4 v1 v2 v3 v4 f1 f2 f3 f4
  grind
 have hB:b1=true→b2=true→b3=true→b4=true→¬((ty=true∧(p.ty<0∨15<p.ty∨p.var<0∨15<p.var))∨(sc=true∧(p.scope<0∨63<p.scope))∨(sp=true∧(p.span<0∨1099511627776<p.span))):=fun q1 q2 q3 q4=>by
  clear hR hR1 hR15 hR2 hck hsm hrow w1 w2 w3 w4 v1 v2 v3 v4 f1 f2 f3 f4
  grind
 have hRc:¬(p.op<0∨11≤p.op)→¬((p.args.length:Int)<lo∨mo<p.args.length)→b1=true→b2=true→b3=true→b4=true→cd=true→ce≠0→R=ce:=fun h h2 q1 q2 q3 q4 h5 h6=>by
  rw [hR,if_neg h,if_neg h2,if_neg (hB q1 q2 q3 q4),if_pos ⟨h5,h6⟩]
 have hU:(cd=false∧sB=false∨u1=false∨u2=false∨u3=false∨u4=false)↔((cd=false∧p.cond≠Ex0)∨(ty=false∧(p.ty≠0∨p.var≠0))∨(sc=false∧p.scope≠0)∨(sp=false∧p.span≠0)):=by
  clear hR hR1 hR15 hR2 hRc hB hck hsm hrow w1 w2 w3 w4 v1 v2 v3 v4 e1 e2 e3 e4
  rw [Bool.eq_false_iff (b:=u1),Bool.eq_false_iff (b:=u2),Bool.eq_false_iff (b:=u3),Bool.eq_false_iff (b:=u4),Bool.eq_false_iff (b:=sB),ne_eq,ne_eq,ne_eq,ne_eq,ne_eq,f1,f2,f3,f4,hsB2]
  cases cd<;>cases ty<;>cases sc<;>cases sp<;>simp [or_assoc]
 have hR3:¬(p.op<0∨11≤p.op)→¬((p.args.length:Int)<lo∨mo<p.args.length)→b1=true→b2=true→b3=true→b4=true→(cd=true→ce=0)→(cd=false∧sB=false∨u1=false∨u2=false∨u3=false∨u4=false)→R=3:=fun h h2 q1 q2 q3 q4 h5 h6=>by
  rw [hR,if_neg h,if_neg h2,if_neg (hB q1 q2 q3 q4),if_neg (fun hh=>hh.2 (h5 hh.1)),if_pos (hU.1 h6)]
 have hR0:¬(p.op<0∨11≤p.op)→¬((p.args.length:Int)<lo∨mo<p.args.length)→b1=true→b2=true→b3=true→b4=true→(cd=true→ce=0)→¬(cd=false∧sB=false∨u1=false∨u2=false∨u3=false∨u4=false)→R=0:=fun h h2 q1 q2 q3 q4 h5 h6=>by
  rw [hR,if_neg h,if_neg h2,if_neg (hB q1 q2 q3 q4),if_neg (fun hh=>hh.2 (h5 hh.1)),if_neg (fun hh=>h6 (hU.2 hh))]
 clear hsB hs hR hB hU hsB2 e1 e2 e3 e4 f1 f2 f3 f4
 obtain ⟨pO,pA,pT,pV,pS,pN,pCo,pCa,pCv,pCf,pCk,pXk,pXn,pXt,hx,hxc,hpO,hpA,hpT,hpV,hpS,hpN⟩:=Pat.form2 p
 rw [hx] at hcl ⊢
 rw [hxc] at hck hsm hclc
 simp only [← hpO,← hpT,← hpV,← hpS,← hpN] at *
 refine zt ?_;unhygienic intros
 have hel:pA.length=p.args.length:=by rw [hpA,zr]
 generalize p.args.length=al at *
 clear hpA hx hxc hpO hpT hpV hpS hpN
 refine fB T154 [.t 2] ?_
 by_cases h0:pO<0∨11≤pO
 · have hR:=hR1 h0
   have hk:bOr (iLt pO 0) (iLe 11 pO)=true:=by simp only [ee];simpa using h0
   have fz:=hk
   refine Cq ?_
   refine Aq ?_
   exact fI (h:=hR.symm)
 have h1:0≤pO:=by omega
 have h2:pO<11:=by omega
 have k1:iLt pO 0=false:=by simp only [ee];simp;omega
 have k2:iLe 11 pO=false:=by simp only [ee];simp;omega
 have hrow:=hrow h1 h2
 have hR15:=hR15 h0
 have hR2:=hR2 h0
 have hRc:=hRc h0
 have hR3:=hR3 h0
 have hR0:=hR0 h0
 have hrw:rowA (Classical.choice wW).g pO 6=[int lo,int mo,bool ty,bool cd,bool sc,bool sp]:=by rw [e_rowA];exact hrow
 clear hrow hR1
 cases cd with
 | true =>
  have fz:=And.intro k1 (And.intro k2 hrw)
  refine Cq ?_
  refine oC (fun c1=>?_) fun c1=>?_
  ·
   simp [ee] at c1
  simp [ee] at c1
  refine Cq ?_
  refine oC (fun c2=>?_) fun c2=>?_
  ·
   simp [ee] at c2
   refine Aq ?_
   exact fI (h:=(hR15 (by omega)).symm)
  simp [ee] at c2
  refine Aq ?_
  refine oPA w1 ?_
  refine Cq ?_
  refine zj rfl rfl (fun c3=>?_) (fun c3=>?_)
  ·
   simp [ee] at c3
   refine Aq ?_
   refine zg rfl rfl ?_
   refine Aq ?_
   refine zg rfl rfl ?_
   refine Aq ?_
   refine zg rfl rfl ?_
   refine Aq ?_
   exact fI (h:=(hR2 (by omega) (by simp [*])).symm)
  simp [ee] at c3
  refine Aq ?_
  refine oPG w2 ?_
  refine Cq ?_
  refine zj rfl rfl (fun c4=>?_) (fun c4=>?_)
  ·
   simp [ee] at c4
   refine Aq ?_
   refine zg rfl rfl ?_
   refine Aq ?_
   refine zg rfl rfl ?_
   refine Aq ?_
   exact fI (h:=(hR2 (by omega) (by simp [*])).symm)
  simp [ee] at c4
  refine Aq ?_
  refine oPG w3 ?_
  refine Cq ?_
  refine zj rfl rfl (fun c5=>?_) (fun c5=>?_)
  ·
   simp [ee] at c5
   refine Aq ?_
   refine zg rfl rfl ?_
   refine Aq ?_
   exact fI (h:=(hR2 (by omega) (by simp [*])).symm)
  simp [ee] at c5
  refine Aq ?_
  refine oPG w4 ?_
  refine Cq ?_
  refine oC (fun c6=>?_) fun c6=>?_
  ·
   simp [ee] at c6
   refine Aq ?_
   exact fI (h:=(hR2 (by omega) (by simp [*])).symm)
  simp [ee] at c6
  refine Aq ?_
  refine oPA hck ?_
  refine Cq ?_
  refine oC (fun c7=>?_) fun c7=>?_
  ·
   simp [ee] at c7
   refine Aq ?_
   exact fI (h:=(hRc (by omega) (by assumption) (by assumption) (by assumption) (by assumption) rfl (by assumption)).symm)
  simp [ee] at c7
  refine Cq ?_
  refine zj rfl rfl (fun c8=>?_) (fun c8=>?_)
  ·
   simp [ee] at c8
  simp [ee] at c8
  refine Aq ?_
  refine zg rfl rfl ?_
  refine Aq ?_
  refine oPG v1 ?_
  refine Cq ?_
  refine zj rfl rfl (fun c9=>?_) (fun c9=>?_)
  ·
   simp [ee] at c9
   refine Aq ?_
   refine zg rfl rfl ?_
   refine Aq ?_
   refine zg rfl rfl ?_
   refine Aq ?_
   refine zg rfl rfl ?_
   refine Aq ?_
   exact fI (h:=(hR3 (by omega) (by assumption) (by assumption) (by assumption) (by assumption) (fun _=>by assumption) (by simp [*])).symm)
  simp [ee] at c9
  refine Aq ?_
  refine oPG v2 ?_
  refine Cq ?_
  refine zj rfl rfl (fun c10=>?_) (fun c10=>?_)
  ·
   simp [ee] at c10
   refine Aq ?_
   refine zg rfl rfl ?_
   refine Aq ?_
   refine zg rfl rfl ?_
   refine Aq ?_
   exact fI (h:=(hR3 (by omega) (by assumption) (by assumption) (by assumption) (by assumption) (fun _=>by assumption) (by simp [*])).symm)
  simp [ee] at c10
  refine Aq ?_
  refine oPG v3 ?_
  refine Cq ?_
  refine zj rfl rfl (fun c11=>?_) (fun c11=>?_)
  ·
   simp [ee] at c11
   refine Aq ?_
   refine zg rfl rfl ?_
   refine Aq ?_
   exact fI (h:=(hR3 (by omega) (by assumption) (by assumption) (by assumption) (by assumption) (fun _=>by assumption) (by simp [*])).symm)
  simp [ee] at c11
  refine Aq ?_
  refine oPG v4 ?_
  refine Cq ?_
  refine oC (fun c12=>?_) fun c12=>?_
  ·
   simp [ee] at c12
   refine Aq ?_
   exact fI (h:=(hR3 (by omega) (by assumption) (by assumption) (by assumption) (by assumption) (fun _=>by assumption) (by simp [*])).symm)
  simp [ee] at c12
  refine Aq ?_
  exact fI (h:=(hR0 (by omega) (by assumption) (by assumption) (by assumption) (by assumption) (fun _=>by assumption) (by simp [*])).symm)
 | false =>
  have fz:=And.intro k1 (And.intro k2 hrw)
  refine Cq ?_
  refine oC (fun c1=>?_) fun c1=>?_
  ·
   simp [ee] at c1
  simp [ee] at c1
  refine Cq ?_
  refine oC (fun c2=>?_) fun c2=>?_
  ·
   simp [ee] at c2
   refine Aq ?_
   exact fI (h:=(hR15 (by omega)).symm)
  simp [ee] at c2
  refine Aq ?_
  refine oPA w1 ?_
  refine Cq ?_
  refine zj rfl rfl (fun c3=>?_) (fun c3=>?_)
  ·
   simp [ee] at c3
   refine Aq ?_
   refine zg rfl rfl ?_
   refine Aq ?_
   refine zg rfl rfl ?_
   refine Aq ?_
   refine zg rfl rfl ?_
   refine Aq ?_
   exact fI (h:=(hR2 (by omega) (by simp [*])).symm)
  simp [ee] at c3
  refine Aq ?_
  refine oPG w2 ?_
  refine Cq ?_
  refine zj rfl rfl (fun c4=>?_) (fun c4=>?_)
  ·
   simp [ee] at c4
   refine Aq ?_
   refine zg rfl rfl ?_
   refine Aq ?_
   refine zg rfl rfl ?_
   refine Aq ?_
   exact fI (h:=(hR2 (by omega) (by simp [*])).symm)
  simp [ee] at c4
  refine Aq ?_
  refine oPG w3 ?_
  refine Cq ?_
  refine zj rfl rfl (fun c5=>?_) (fun c5=>?_)
  ·
   simp [ee] at c5
   refine Aq ?_
   refine zg rfl rfl ?_
   refine Aq ?_
   exact fI (h:=(hR2 (by omega) (by simp [*])).symm)
  simp [ee] at c5
  refine Aq ?_
  refine oPG w4 ?_
  refine Cq ?_
  refine oC (fun c6=>?_) fun c6=>?_
  ·
   simp [ee] at c6
   refine Aq ?_
   exact fI (h:=(hR2 (by omega) (by simp [*])).symm)
  simp [ee] at c6
  refine Cq ?_
  refine Cr ?_
  refine zj rfl rfl (fun c7=>?_) (fun c7=>?_)
  ·
   simp [ee] at c7
   refine Aq ?_
   refine oPG hsm ?_
   refine Cq ?_
   refine zj rfl rfl (fun c8=>?_) (fun c8=>?_)
   ·
    simp [ee] at c8
    refine Aq ?_
    refine zg rfl rfl ?_
    refine Aq ?_
    refine zg rfl rfl ?_
    refine Aq ?_
    refine zg rfl rfl ?_
    refine Aq ?_
    refine zg rfl rfl ?_
    refine Aq ?_
    exact fI (h:=(hR3 (by omega) (by assumption) (by assumption) (by assumption) (by assumption) (fun h=>by cases h) (by simp [*])).symm)
   simp [ee] at c8
   refine Aq ?_
   refine oPG v1 ?_
   refine Cq ?_
   refine zj rfl rfl (fun c9=>?_) (fun c9=>?_)
   ·
    simp [ee] at c9
    refine Aq ?_
    refine zg rfl rfl ?_
    refine Aq ?_
    refine zg rfl rfl ?_
    refine Aq ?_
    refine zg rfl rfl ?_
    refine Aq ?_
    exact fI (h:=(hR3 (by omega) (by assumption) (by assumption) (by assumption) (by assumption) (fun h=>by cases h) (by simp [*])).symm)
   simp [ee] at c9
   refine Aq ?_
   refine oPG v2 ?_
   refine Cq ?_
   refine zj rfl rfl (fun c10=>?_) (fun c10=>?_)
   ·
    simp [ee] at c10
    refine Aq ?_
    refine zg rfl rfl ?_
    refine Aq ?_
    refine zg rfl rfl ?_
    refine Aq ?_
    exact fI (h:=(hR3 (by omega) (by assumption) (by assumption) (by assumption) (by assumption) (fun h=>by cases h) (by simp [*])).symm)
   simp [ee] at c10
   refine Aq ?_
   refine oPG v3 ?_
   refine Cq ?_
   refine zj rfl rfl (fun c11=>?_) (fun c11=>?_)
   ·
    simp [ee] at c11
    refine Aq ?_
    refine zg rfl rfl ?_
    refine Aq ?_
    exact fI (h:=(hR3 (by omega) (by assumption) (by assumption) (by assumption) (by assumption) (fun h=>by cases h) (by simp [*])).symm)
   simp [ee] at c11
   refine Aq ?_
   refine oPG v4 ?_
   refine Cq ?_
   refine oC (fun c12=>?_) fun c12=>?_
   ·
    simp [ee] at c12
    refine Aq ?_
    exact fI (h:=(hR3 (by omega) (by assumption) (by assumption) (by assumption) (by assumption) (fun h=>by cases h) (by simp [*])).symm)
   simp [ee] at c12
   refine Aq ?_
   exact fI (h:=(hR0 (by omega) (by assumption) (by assumption) (by assumption) (by assumption) (fun h=>by cases h) (by simp [*])).symm)
  simp [ee] at c7
noncomputable def Pat.chkR (p:Pat):Int:=if 64<p.cnt then 5 else if 12<p.dep then 12 else zu Pat.nodeE p.nodes
theorem xc {α:Type} {F:α→Int}:∀ {l:List α},(∀ q∈l,F q=0)→zu F l=0
 | [],_=>rfl
 | q :: r,h=>by rw [zu,if_neg (by simp [h q]),xc fun q hq=>h q (by simp [hq])]
theorem firstE_at {α:Type} {F:α→Int} {d:List α} {q:α} {r:List α} (h:∀ q∈d,F q=0) (hq:F q≠0):zu F (d++q :: r)=F q:=by
 rw [yr,if_neg (by simp [xc h]),zu,if_pos hq]
theorem P_CheckRest (p:Pat) (hs:p.Sm):PCall EE 122 [p.enc] (int p.chkR):=by
 have h1:=P_pattern_Size p hs
 have hsn:=hs.node
 have hcl:=Pat.closed p
 obtain ⟨R,hR⟩:∃ R,R=p.chkR:=⟨_,rfl⟩
 rw [← hR]
 unfold Pat.chkR at hR
 obtain ⟨pcs,hpe⟩:∃ cs,p.enc=.agg cs:=by obtain ⟨o,es,t,v,s,n,co,ec,cv,cf,ck,xk,xn,xt,h⟩:=Pat.form p;exact ⟨_,h⟩
 have hpre:=P_preorder p hpe
 obtain ⟨pO,pA,pT,pV,pS,pN,pCo,pCa,pCv,pCf,pCk,pXk,pXn,pXt,hx⟩:=Pat.form p
 rw [hx] at h1 hcl hpe ⊢
 injection hpe with hpe
 subst hpe
 have hip:(AV.fn 155 [.iptr [int pO,.isl 14 pA,int pT,int pV,int pS,int pN,int pCo,.isl 8 pCa,int pCv,int pCf,int pCk,int pXk,int pXn,str pXt]]).closed=true:=by simp only [zE,AV.closedL,zh,Bool.and_true];exact hcl
 generalize hn:(p.cnt:Int)=cn at *
 generalize hd:(p.dep:Int)=dn at *
 refine zt ?_;unhygienic intros
 refine fB T122 [.cell 2 1 false] ?_
 by_cases g1:64<p.cnt
 · have k1:iLt 64 cn=true:=by simp only [ee];simp;omega
   have hR:R=5:=by rw [hR,if_pos g1]
   refine Aq ?_
   refine oPA h1 ?_
   have fz:=k1
   refine Cq ?_
   refine Aq ?_
   exact fI (h:=hR.symm)
 have k1:iLt 64 cn=false:=by simp only [ee];simp;omega
 by_cases g2:12<p.dep
 · have k2:iLt 12 dn=true:=by simp only [ee];simp;omega
   have hR:R=12:=by rw [hR,if_neg g1,if_pos g2]
   refine Aq ?_
   refine oPA h1 ?_
   have fz:=And.intro k1 k2
   refine Cq ?_
   refine Cr ?_
   refine Aq ?_
   exact fI (h:=hR.symm)
 have k2:iLt 12 dn=false:=by simp only [ee];simp;omega
 have hR:R=zu Pat.nodeE p.nodes:=by rw [hR,if_neg g1,if_neg g2]
 refine Aq ?_
 refine oPA h1 ?_
 have fz:=And.intro k1 k2
 refine Cq ?_
 refine Cr ?_
 refine Aq ?_
 refine oPA hpre ?_
 refine Aq ?_
 refine x6 (F':=[(17,.fn 155 [.iptr [int pO,.isl 14 pA,int pT,int pV,int pS,int pN,int pCo,.isl 8 pCa,int pCv,int pCf,int pCk,int pXk,int pXn,str pXt]]),(2,.ptr 0 0)]) (H':=[.cells [int 0],.dead,.dead,.dead,.dead,.dead,.dead]) ?_ ?_
 · exact (eS [.gone,.to 0] [some 1,none,none,none,none,none,none])
 refine on_preorder (fun _=>.cells [int 0]) (fun _=>.dead) (fun _=>.dead) (fun _=>.dead) (fun _=>.dead) (fun _=>.dead) (fun _=>.dead) (fun _=>.dead) (fun _=>.dead) (fun d=>∀ q∈d,q.nodeE=0) p hs hx rfl rfl ⟨.cl hip,.ptr (by decide),trivial⟩ (fun q hq=>by cases hq) ?_ (fun _=>.cells ⟨.cl rfl,trivial⟩) (fun _=>.dead) (fun _=>.dead) (fun _=>.dead) (fun _=>.dead) (fun _=>.dead) (fun _=>.dead) (fun _=>.dead) (fun _=>.dead) (fun hall=>?_) (fun d q r hd hok=>?_)
 · exact (xQ [.to 0,.gone,.gone,.gone,.gone,.gone,.gone,.to 7] [some 0,some 1,some 2,some 3,some 4,some 5,some 6,some 7,none,none] rfl ⟨rfl,rfl,rfl,rfl,rfl,rfl,rfl,rfl,trivial⟩ (by simp) (by simp) ⟨⟨by simp,rfl⟩,trivial,trivial,trivial,trivial,trivial,trivial,⟨by simp,rfl⟩,trivial⟩ ⟨zk (b:=0) rfl rfl rfl ⟨.refl _,trivial⟩,.dead,.dead,.dead,.dead,.dead,.dead,.some 7 _ _ rfl rfl rfl (.loop _ _ _ _ _ _ _ _ ⟨.cl hip,.refl _,trivial⟩),.dead,.dead,trivial⟩)
 · have hR:R=0:=by rw [hR];exact xc hall
   refine Aq ?_
   exact fI (h:=hR.symm)
 have hq:=P_check q (hsn q (by rw [hd];simp))
 have hqc:=Pat.closed q
 have hfe:=fun h=>firstE_at (F:=Pat.nodeE) (r:=r) hok (q:=q) h
 rw [← hd] at hfe
 have hok2:q.nodeE=0→∀ q'∈d++[q],q'.nodeE=0:=fun h q' hq'=>by
  rcases List.mem_append.1 hq' with h' | h'
  · exact hok q' h'
  simp at h';rw [h'];exact h
 obtain ⟨qO,qA,qT,qV,qS,qN,qCo,qCa,qCv,qCf,qCk,qXk,qXn,qXt,hx2⟩:=Pat.form q
 rw [hx2] at hq hqc ⊢
 generalize q.nodeE=qe at *
 by_cases hqe:qe=0
 · have k3:iNe qe 0=false:=by simp only [ee];simpa using hqe
   refine Aq ?_
   refine xp rfl ?_
   refine Aq ?_
   refine oPA hq ?_
   have fz:=k3
   refine Cq ?_
   refine Aq ?_
   exact wJ rfl (hok2 hqe) (xQ [.to 0,.gone,.gone,.gone,.gone,.gone,.gone,.to 7,.gone,.gone,.gone] [some 0,some 1,some 2,some 3,some 4,some 5,some 6,some 7,none,none] rfl ⟨rfl,rfl,rfl,rfl,rfl,rfl,rfl,rfl,trivial⟩ (by simp) (by simp) ⟨⟨by simp,rfl⟩,trivial,trivial,trivial,trivial,trivial,trivial,⟨by simp,rfl⟩,trivial,trivial,trivial,trivial⟩ ⟨zk (b:=0) rfl rfl rfl ⟨.refl _,trivial⟩,.dead,.dead,.dead,.dead,.dead,.dead,.some 7 _ _ rfl rfl rfl (.loop _ _ _ _ _ _ _ _ ⟨.cl hip,.refl _,trivial⟩),.dead,.dead,trivial⟩)
 have k3:iNe qe 0=true:=by simp only [ee];simpa using hqe
 have hR:R=qe:=by rw [hR];exact hfe hqe
 refine Aq ?_
 refine xp rfl ?_
 refine Aq ?_
 refine oPA hq ?_
 have fz:=k3
 refine Cq ?_
 refine Aq ?_
 refine rnd_stop (by simp) rfl ?_
 refine Aq ?_
 exact fI (h:=hR.symm)
theorem Pat.some_cells (p:Pat):∃ cs,p.enc=.agg cs:=by obtain ⟨o,es,t,v,s,n,co,ec,cv,cf,ck,xk,xn,xt,h⟩:=Pat.form p;exact ⟨_,h⟩
noncomputable def Pat.wholeE (p:Pat):Int:=if p.chkR≠0 then p.chkR else zu (fun q=>if 8≤q.op then 1 else 0) p.nodes
theorem P_whole (p:Pat) (hs:p.Sm):PCall EE 80 [p.enc] (int p.wholeE):=by
 have h1:=P_CheckRest p hs
 have hcl:=Pat.closed p
 obtain ⟨R,hR⟩:∃ R,R=p.wholeE:=⟨_,rfl⟩
 rw [← hR]
 unfold Pat.wholeE at hR
 obtain ⟨pcs,hpe⟩:=Pat.some_cells p
 have hpre:=P_preorder p hpe
 obtain ⟨pO,pA,pT,pV,pS,pN,pCo,pCa,pCv,pCf,pCk,pXk,pXn,pXt,hx⟩:=Pat.form p
 rw [hx] at h1 hcl hpe ⊢
 injection hpe with hpe
 subst hpe
 have hip:(AV.fn 155 [.iptr [int pO,.isl 14 pA,int pT,int pV,int pS,int pN,int pCo,.isl 8 pCa,int pCv,int pCf,int pCk,int pXk,int pXn,str pXt]]).closed=true:=by simp only [zE,AV.closedL,zh,Bool.and_true];exact hcl
 generalize p.chkR=rn at *
 refine zt ?_;unhygienic intros
 refine fB T80 [.cell 2 1 false] ?_
 by_cases g1:rn=0
 rotate_left
 · have k1:iNe rn 0=true:=by simp only [ee];simpa using g1
   rw [if_pos g1] at hR
   refine Aq ?_
   refine oPA h1 ?_
   have fz:=k1
   refine Cq ?_
   refine Aq ?_
   exact fI (h:=hR.symm)
 have k1:iNe rn 0=false:=by simp only [ee];simpa using g1
 rw [if_neg (by simpa using g1)] at hR
 refine Aq ?_
 refine oPA h1 ?_
 have fz:=k1
 refine Cq ?_
 refine Aq ?_
 refine oPA hpre ?_
 refine Aq ?_
 refine x6 (F':=[(11,.fn 155 [.iptr [int pO,.isl 14 pA,int pT,int pV,int pS,int pN,int pCo,.isl 8 pCa,int pCv,int pCf,int pCk,int pXk,int pXn,str pXt]]),(2,.ptr 0 0)]) (H':=[.cells [int 0],.dead,.dead,.dead,.dead,.dead,.dead]) ?_ ?_
 · exact (eS [.gone,.to 0] [some 1,none,none,none,none,none,none])
 refine on_preorder (fun _=>.cells [int 0]) (fun _=>.dead) (fun _=>.dead) (fun _=>.dead) (fun _=>.dead) (fun _=>.dead) (fun _=>.dead) (fun _=>.dead) (fun _=>.dead) (fun d=>∀ q∈d,(if 8≤q.op then 1 else 0:Int)=0) p hs hx rfl rfl ⟨.cl hip,.ptr (by decide),trivial⟩ (fun q hq=>by cases hq) ?_ (fun _=>.cells ⟨.cl rfl,trivial⟩) (fun _=>.dead) (fun _=>.dead) (fun _=>.dead) (fun _=>.dead) (fun _=>.dead) (fun _=>.dead) (fun _=>.dead) (fun _=>.dead) (fun hall=>?_) (fun d q r hd hok=>?_)
 · exact (xQ [.to 0,.gone,.gone,.gone,.gone,.gone,.gone,.to 7] [some 0,some 1,some 2,some 3,some 4,some 5,some 6,some 7,none,none] rfl ⟨rfl,rfl,rfl,rfl,rfl,rfl,rfl,rfl,trivial⟩ (by simp) (by simp) ⟨⟨by simp,rfl⟩,trivial,trivial,trivial,trivial,trivial,trivial,⟨by simp,rfl⟩,trivial⟩ ⟨zk (b:=0) rfl rfl rfl ⟨.refl _,trivial⟩,.dead,.dead,.dead,.dead,.dead,.dead,.some 7 _ _ rfl rfl rfl (.loop _ _ _ _ _ _ _ _ ⟨.cl hip,.refl _,trivial⟩),.dead,.dead,trivial⟩)
 · have hR:R=0:=by rw [hR];exact xc hall
   refine Aq ?_
   exact fI (h:=hR.symm)
 have hqc:=Pat.closed q
 have hfe:=fun h=>firstE_at (F:=fun q:Pat=>(if 8≤q.op then 1 else 0:Int)) (r:=r) hok (q:=q) h
 rw [← hd] at hfe
 have hok2:(if 8≤q.op then 1 else 0:Int)=0→∀ q'∈d++[q],(if 8≤q'.op then 1 else 0:Int)=0:=fun h q' hq'=>by
  rcases List.mem_append.1 hq' with h' | h'
  · exact hok q' h'
  simp at h';rw [h'];exact h
 obtain ⟨qO,qA,qT,qV,qS,qN,qCo,qCa,qCv,qCf,qCk,qXk,qXn,qXt,hx2,hx2c,hqO,hqA,hqT,hqV,hqS,hqN⟩:=Pat.form2 q
 rw [hx2] at hqc ⊢
 rw [← hqO] at hfe hok2
 by_cases hqe:8≤qO
 · have k3:iLe 8 qO=true:=by simp only [ee];simpa using hqe
   have hR:R=1:=by rw [hR,hfe (by simp [hqe]),if_pos hqe]
   refine Aq ?_
   refine xp rfl ?_
   have fz:=k3
   refine Cq ?_
   refine Aq ?_
   refine rnd_stop (by simp) rfl ?_
   refine Aq ?_
   exact fI (h:=hR.symm)
 have k3:iLe 8 qO=false:=by simp only [ee];simp;omega
 refine Aq ?_
 refine xp rfl ?_
 have fz:=k3
 refine Cq ?_
 refine Aq ?_
 exact wJ rfl (hok2 (if_neg hqe)) (xQ [.to 0,.gone,.gone,.gone,.gone,.gone,.gone,.to 7,.gone,.gone,.gone] [some 0,some 1,some 2,some 3,some 4,some 5,some 6,some 7,none,none] rfl ⟨rfl,rfl,rfl,rfl,rfl,rfl,rfl,rfl,trivial⟩ (by simp) (by simp) ⟨⟨by simp,rfl⟩,trivial,trivial,trivial,trivial,trivial,trivial,⟨by simp,rfl⟩,trivial,trivial,trivial,trivial⟩ ⟨zk (b:=0) rfl rfl rfl ⟨.refl _,trivial⟩,.dead,.dead,.dead,.dead,.dead,.dead,.some 7 _ _ rfl rfl rfl (.loop _ _ _ _ _ _ _ _ ⟨.cl hip,.refl _,trivial⟩),.dead,.dead,trivial⟩)
def w6 (s:Int × Int × Bool) (q:Pat):Int × Int × Bool :=
 ((if zJ q.op then s.1+1 else s.1),(if yP q.op then s.2.1+1 else s.2.1),(s.2.2 && (!zJ q.op || q.var == s.1)) && (!yP q.op || q.scope == s.2.1))
def yg (l:List Pat):Int × Int × Bool:=l.foldl w6 (0,0,true)
theorem cfold_snoc (d:List Pat) (q:Pat):yg (d++[q])=w6 (yg d) q:=by simp [yg]
theorem cfold_bd (d:List Pat):0≤(yg d).1∧(yg d).1≤d.length∧0≤(yg d).2.1∧(yg d).2.1≤d.length:=by
 have:∀ (l:List Pat) (s:Int × Int × Bool),s.1≤(l.foldl w6 s).1∧(l.foldl w6 s).1≤s.1+l.length∧s.2.1≤(l.foldl w6 s).2.1∧(l.foldl w6 s).2.1≤s.2.1+l.length:=by
  intro l
  induction l with
  | nil=>intro s;simp
  | cons q r ih =>
   intro s
   have:=ih (w6 s q)
   simp only [List.foldl_cons,List.length_cons]
   simp only [w6] at this ⊢
   split at this<;>split at this<;>simp_all<;>omega
 have:=this d (0,0,true)
 simpa [yg] using this
theorem P_count (p:Pat) (hs:p.Sm) (hop:∀ q∈p.nodes,0≤q.op∧q.op<11):PCall EE 81 [p.enc] (.tup [int (yg p.nodes).1,int (yg p.nodes).2.1,bool (yg p.nodes).2.2]):=by
 have hcl:=Pat.closed p
 have hcnt:=Pat.nodes_len p
 have hs1:=hs.1
 obtain ⟨pcs,hpe⟩:=Pat.some_cells p
 have hpre:=P_preorder p hpe
 obtain ⟨pO,pA,pT,pV,pS,pN,pCo,pCa,pCv,pCf,pCk,pXk,pXn,pXt,hx⟩:=Pat.form p
 rw [hx] at hcl hpe ⊢
 injection hpe with hpe
 subst hpe
 have hip:(AV.fn 155 [.iptr [int pO,.isl 14 pA,int pT,int pV,int pS,int pN,int pCo,.isl 8 pCa,int pCv,int pCf,int pCk,int pXk,int pXn,str pXt]]).closed=true:=by simp only [zE,AV.closedL,zh,Bool.and_true];exact hcl
 refine zt ?_;unhygienic intros
 refine fB T81 [.t 2,.t 3,.t 4] ?_
 refine Aq ?_
 refine oPA hpre ?_
 refine Aq ?_
 refine x6 (F':=[(11,.fn 155 [.iptr [int pO,.isl 14 pA,int pT,int pV,int pS,int pN,int pCo,.isl 8 pCa,int pCv,int pCf,int pCk,int pXk,int pXn,str pXt]]),(5,.ptr 0 0),(6,.ptr 1 0),(7,.ptr 2 0)]) (H':=[.cells [int 0],.cells [int 0],.cells [bool true],.dead,.dead,.dead,.dead]) ?_ ?_
 · exact (eS [.gone,.to 0,.to 1,.to 2] [some 1,some 2,some 3,none,none,none,none])
 refine on_preorder (fun d=>.cells [int (yg d).1]) (fun d=>.cells [int (yg d).2.1]) (fun d=>.cells [bool (yg d).2.2]) (fun _=>.dead) (fun _=>.dead) (fun _=>.dead) (fun _=>.dead) (fun _=>.dead) (fun _=>.dead) (fun _=>True) p hs hx rfl rfl ⟨.cl hip,.ptr (by decide),.ptr (by decide),.ptr (by decide),trivial⟩ trivial ?_ (fun _=>.cells ⟨.cl rfl,trivial⟩) (fun _=>.cells ⟨.cl rfl,trivial⟩) (fun _=>.cells ⟨.cl rfl,trivial⟩) (fun _=>.dead) (fun _=>.dead) (fun _=>.dead) (fun _=>.dead) (fun _=>.dead) (fun _=>.dead) (fun _=>?_) (fun d q r hd _=>?_)
 · exact (xQ [.to 0,.to 1,.to 2,.gone,.gone,.gone,.gone,.to 7] [some 0,some 1,some 2,some 3,some 4,some 5,some 6,some 7,none,none] rfl ⟨rfl,rfl,rfl,rfl,rfl,rfl,rfl,rfl,trivial⟩ (by simp) (by simp) ⟨⟨by simp,rfl⟩,⟨by simp,rfl⟩,⟨by simp,rfl⟩,trivial,trivial,trivial,trivial,⟨by simp,rfl⟩,trivial⟩ ⟨zk (b:=0) rfl rfl rfl ⟨.refl _,trivial⟩,zk (b:=1) rfl rfl rfl ⟨.refl _,trivial⟩,zk (b:=2) rfl rfl rfl ⟨.refl _,trivial⟩,.dead,.dead,.dead,.dead,.some 7 _ _ rfl rfl rfl (.loop _ _ _ _ _ _ _ _ ⟨.cl hip,.refl _,.refl _,.refl _,trivial⟩),.dead,.dead,trivial⟩)
 · generalize (yg p.nodes).1=c1 at *
   generalize (yg p.nodes).2.1=c2 at *
   generalize (yg p.nodes).2.2=c3 at *
   refine Aq ?_
   exact fE [.gone,.gone,.gone,.gone,.gone,.gone,.gone,.gone,.gone,.gone]
 have hqc:=Pat.closed q
 have hqo:=hop q (by rw [hd];simp)
 have hrow:=shape_row hqo.1 hqo.2
 have hb:=cfold_bd d
 have hdl:d.length≤1048576:=by have:=congrArg List.length hd;simp at this;omega
 have e1:(yg (d++[q])).1=_:=congrArg (fun s=>s.1) (cfold_snoc d q)
 have e2:(yg (d++[q])).2.1=_:=congrArg (fun s=>s.2.1) (cfold_snoc d q)
 have e3:(yg (d++[q])).2.2=_:=congrArg (fun s=>s.2.2) (cfold_snoc d q)
 dsimp only [w6] at e1 e2 e3
 have hrw:rowA (Classical.choice wW).g q.op 6=[int (wd q.op),int (vc q.op),bool (zJ q.op),bool (xP q.op),bool (yP q.op),bool (xx q.op)]:=by rw [e_rowA];exact hrow
 generalize wd q.op=lo at *
 generalize vc q.op=mo at *
 generalize hty:zJ q.op=ty at *
 generalize xP q.op=cd at *
 generalize hsc:yP q.op=sc at *
 generalize xx q.op=sp at *
 clear hrow
 obtain ⟨qO,qA,qT,qV,qS,qN,qCo,qCa,qCv,qCf,qCk,qXk,qXn,qXt,hx2,hx2c,hqO,hqA,hqT,hqV,hqS,hqN⟩:=Pat.form2 q
 rw [hx2] at hqc ⊢
 simp only [← hqO,← hqV,← hqS] at *
 generalize (yg d).1=c1 at *
 generalize (yg d).2.1=c2 at *
 generalize (yg d).2.2=c3 at *
 generalize (yg (d++[q])).1=f1 at *
 generalize (yg (d++[q])).2.1=f2 at *
 generalize (yg (d++[q])).2.2=f3 at *
 clear hx2 hx2c hqO hqA hqT hqV hqS hqN hty hsc
 have a1:iAdd .i64 c1 1=c1+1:=wZ e_iAdd (by omega) (by omega)
 have a2:iAdd .i64 c2 1=c2+1:=wZ e_iAdd (by omega) (by omega)
 cases ty<;>cases sc
 · have e1:c1=f1:=by simpa using e1.symm
   have e2:c2=f2:=by simpa using e2.symm
   have e3:c3=f3:=by simpa using e3.symm
   refine Aq ?_
   refine xp rfl ?_
   have fz:=hrw
   refine Cq ?_
   refine Aq ?_
   exact wJ rfl trivial (xQ [.to 0,.to 1,.to 2,.gone,.gone,.gone,.gone,.to 7,.gone,.gone,.gone,.gone] [some 0,some 1,some 2,some 3,some 4,some 5,some 6,some 7,none,none] rfl ⟨rfl,rfl,rfl,rfl,rfl,rfl,rfl,rfl,trivial⟩ (by simp) (by simp) ⟨⟨by simp,rfl⟩,⟨by simp,rfl⟩,⟨by simp,rfl⟩,trivial,trivial,trivial,trivial,⟨by simp,rfl⟩,trivial,trivial,trivial,trivial,trivial⟩ ⟨zk (b:=0) rfl rfl rfl ⟨.of (congrArg int (by assumption)),trivial⟩,zk (b:=1) rfl rfl rfl ⟨.of (congrArg int (by assumption)),trivial⟩,zk (b:=2) rfl rfl rfl ⟨.of (congrArg bool (by assumption)),trivial⟩,.dead,.dead,.dead,.dead,.some 7 _ _ rfl rfl rfl (.loop _ _ _ _ _ _ _ _ ⟨.cl hip,.refl _,.refl _,.refl _,trivial⟩),.dead,.dead,trivial⟩)
 · have e1:c1=f1:=by simpa using e1.symm
   have e2:iAdd .i64 c2 1=f2:=by rw [a2];simpa using e2.symm
   have e3:bAnd c3 (iEq qS c2)=f3:=by simp only [ee];simpa using e3.symm
   refine Aq ?_
   refine xp rfl ?_
   have fz:=hrw
   refine Cq ?_
   refine Aq ?_
   exact wJ rfl trivial (xQ [.to 0,.to 1,.to 2,.gone,.gone,.gone,.gone,.to 7,.gone,.gone,.gone,.gone] [some 0,some 1,some 2,some 3,some 4,some 5,some 6,some 7,none,none] rfl ⟨rfl,rfl,rfl,rfl,rfl,rfl,rfl,rfl,trivial⟩ (by simp) (by simp) ⟨⟨by simp,rfl⟩,⟨by simp,rfl⟩,⟨by simp,rfl⟩,trivial,trivial,trivial,trivial,⟨by simp,rfl⟩,trivial,trivial,trivial,trivial,trivial⟩ ⟨zk (b:=0) rfl rfl rfl ⟨.of (congrArg int (by assumption)),trivial⟩,zk (b:=1) rfl rfl rfl ⟨.of (congrArg int (by assumption)),trivial⟩,zk (b:=2) rfl rfl rfl ⟨.of (congrArg bool (by assumption)),trivial⟩,.dead,.dead,.dead,.dead,.some 7 _ _ rfl rfl rfl (.loop _ _ _ _ _ _ _ _ ⟨.cl hip,.refl _,.refl _,.refl _,trivial⟩),.dead,.dead,trivial⟩)
 · have e1:iAdd .i64 c1 1=f1:=by rw [a1];simpa using e1.symm
   have e2:c2=f2:=by simpa using e2.symm
   have e3:bAnd c3 (iEq qV c1)=f3:=by simp only [ee];simpa using e3.symm
   refine Aq ?_
   refine xp rfl ?_
   have fz:=hrw
   refine Cq ?_
   refine Aq ?_
   exact wJ rfl trivial (xQ [.to 0,.to 1,.to 2,.gone,.gone,.gone,.gone,.to 7,.gone,.gone,.gone,.gone] [some 0,some 1,some 2,some 3,some 4,some 5,some 6,some 7,none,none] rfl ⟨rfl,rfl,rfl,rfl,rfl,rfl,rfl,rfl,trivial⟩ (by simp) (by simp) ⟨⟨by simp,rfl⟩,⟨by simp,rfl⟩,⟨by simp,rfl⟩,trivial,trivial,trivial,trivial,⟨by simp,rfl⟩,trivial,trivial,trivial,trivial,trivial⟩ ⟨zk (b:=0) rfl rfl rfl ⟨.of (congrArg int (by assumption)),trivial⟩,zk (b:=1) rfl rfl rfl ⟨.of (congrArg int (by assumption)),trivial⟩,zk (b:=2) rfl rfl rfl ⟨.of (congrArg bool (by assumption)),trivial⟩,.dead,.dead,.dead,.dead,.some 7 _ _ rfl rfl rfl (.loop _ _ _ _ _ _ _ _ ⟨.cl hip,.refl _,.refl _,.refl _,trivial⟩),.dead,.dead,trivial⟩)
 have e1:iAdd .i64 c1 1=f1:=by rw [a1];simpa using e1.symm
 have e2:iAdd .i64 c2 1=f2:=by rw [a2];simpa using e2.symm
 have e3:bAnd (bAnd c3 (iEq qV c1)) (iEq qS c2)=f3:=by simp only [ee];simpa using e3.symm
 refine Aq ?_
 refine xp rfl ?_
 have fz:=hrw
 refine Cq ?_
 refine Aq ?_
 exact wJ rfl trivial (xQ [.to 0,.to 1,.to 2,.gone,.gone,.gone,.gone,.to 7,.gone,.gone,.gone,.gone] [some 0,some 1,some 2,some 3,some 4,some 5,some 6,some 7,none,none] rfl ⟨rfl,rfl,rfl,rfl,rfl,rfl,rfl,rfl,trivial⟩ (by simp) (by simp) ⟨⟨by simp,rfl⟩,⟨by simp,rfl⟩,⟨by simp,rfl⟩,trivial,trivial,trivial,trivial,⟨by simp,rfl⟩,trivial,trivial,trivial,trivial,trivial⟩ ⟨zk (b:=0) rfl rfl rfl ⟨.of (congrArg int (by assumption)),trivial⟩,zk (b:=1) rfl rfl rfl ⟨.of (congrArg int (by assumption)),trivial⟩,zk (b:=2) rfl rfl rfl ⟨.of (congrArg bool (by assumption)),trivial⟩,.dead,.dead,.dead,.dead,.some 7 _ _ rfl rfl rfl (.loop _ _ _ _ _ _ _ _ ⟨.cl hip,.refl _,.refl _,.refl _,trivial⟩),.dead,.dead,trivial⟩)
theorem firstE_zero {α:Type} {F:α→Int} {l:List α} (h:zu F l=0):∀ q∈l,F q=0:=by
 induction l with
 | nil=>intro q hq;cases hq
 | cons x r ih =>
  intro q hq
  rw [zu] at h
  by_cases hx:F x=0
  · rw [if_neg (by simpa using hx)] at h
    rcases List.mem_cons.1 hq with rfl | hq
    · exact hx
    exact ih h q hq
  rw [if_pos hx] at h;exact absurd h hx
theorem Ex.chk_nodes {e:Ex} (h:e.chk=0):∀ q∈e.nodes,q.nodeE=0:=by
 unfold Ex.chk at h
 split at h
 · cases h
 split at h
 · cases h
 exact firstE_zero h
theorem Ex0.form : Ex0.enc=.agg [int 0,.isl 8 [],int 0,int 0,int 0,int 0,int 0,str ⟨#[]⟩]:=by rw [Ex0,Ex.enc_mk,zn];rfl
theorem w9 {p:Pat} (h:p.wholeE=0):p.chkR=0∧(∀ q∈p.nodes,q.nodeE=0)∧∀ q∈p.nodes,q.op<8:=by
 unfold Pat.wholeE at h
 by_cases h1:p.chkR=0
 · rw [if_neg (by simpa using h1)] at h
   have fe:∀ {F:Pat→Int} {l:List Pat},zu F l=0→∀ q∈l,F q=0:=by
    intro F l
    induction l with
    | nil=>intro _ q hq;cases hq
    | cons x r ih =>
     intro hf q hq
     rw [zu] at hf
     by_cases hx:F x=0
     · rw [if_neg (by simpa using hx)] at hf
       rcases List.mem_cons.1 hq with rfl | hq
       · exact hx
       exact ih hf q hq
     rw [if_pos hx] at hf;exact absurd hf hx
   refine ⟨h1,?_,fun q hq=>?_⟩
   · unfold Pat.chkR at h1
     split at h1
     · cases h1
     split at h1
     · cases h1
     exact fe h1
   have:=fe h q hq
   by_cases h8:8≤q.op
   · simp [h8] at this
   omega
 rw [if_pos h1] at h;exact absurd h h1
theorem nodeE_op {q:Pat} (h:q.nodeE=0):0≤q.op∧q.op<11:=by
 unfold Pat.nodeE at h
 by_cases h1:q.op<0∨11≤q.op
 · rw [if_pos h1] at h;cases h
 omega
noncomputable def Pat.chk (p:Pat):Int:=if p.wholeE≠0 then p.wholeE else if (yg p.nodes).2.2=true then 0 else 14
theorem P_pattern_Check (p:Pat) (hs:p.Sm):PCall EE 27 [p.enc] (int p.chk):=by
 have h1:=P_whole p hs
 have h2:=fun h:p.wholeE=0=>P_count p hs fun q hq=>nodeE_op ((w9 h).2.1 q hq)
 have hcl:=Pat.closed p
 obtain ⟨R,hR⟩:∃ R,R=p.chk:=⟨_,rfl⟩
 rw [← hR]
 unfold Pat.chk at hR
 generalize p.wholeE=rn at *
 generalize (yg p.nodes).1=c1 at *
 generalize (yg p.nodes).2.1=c2 at *
 generalize (yg p.nodes).2.2=c3 at *
 obtain ⟨pO,pA,pT,pV,pS,pN,pCo,pCa,pCv,pCf,pCk,pXk,pXn,pXt,hx⟩:=Pat.form p
 rw [hx] at h1 h2 hcl ⊢
 refine zt ?_;unhygienic intros
 refine fB T27 [.t 2] ?_
 by_cases g1:rn=0
 rotate_left
 · have k1:iNe rn 0=true:=by simp only [ee];simpa using g1
   rw [if_pos g1] at hR
   refine Aq ?_
   refine oPA h1 ?_
   have fz:=k1
   refine Cq ?_
   refine Aq ?_
   exact fI (h:=hR.symm)
 have k1:iNe rn 0=false:=by simp only [ee];simpa using g1
 have h2:=h2 g1
 rw [if_neg (by simpa using g1)] at hR
 cases c3 with
 | true =>
  have k2:bNot true=false:=by simp only [ee];rfl
  refine Aq ?_
  refine oPA h1 ?_
  have fz:=And.intro k1 k2
  refine Cq ?_
  refine Aq ?_
  refine oPA h2 ?_
  refine Cq ?_
  refine Aq ?_
  exact fI (h:=hR.symm)
 | false =>
  have k2:bNot false=true:=by simp only [ee];rfl
  refine Aq ?_
  refine oPA h1 ?_
  have fz:=And.intro k1 k2
  refine Cq ?_
  refine Aq ?_
  refine oPA h2 ?_
  refine Cq ?_
  refine Aq ?_
  exact fI (h:=hR.symm)
def Pat0 : Pat:=.mk 0 [] 0 0 0 0 Ex0
theorem Pat0.enc_eq : Pat0.enc=.agg [int 0,.isl 14 [],int 0,int 0,int 0,int 0,int 0,.isl 8 [],int 0,int 0,int 0,int 0,int 0,str ⟨#[]⟩]:=by
 rw [Pat0,Ex0,Pat.enc_mk,zn,zn];rfl
def markV (s:List Bool) (q:Ex):List Bool:=if vp q.op=true∧0≤q.var∧q.var<16 then s.set q.var.toNat true else s
def varsU (S:List Bool):Nat→List Int
 | 0=>[]
 | j+1=>varsU S j++(if S.getD j false then [(j:Int)] else [])
def Ex.marks (e:Ex):List Bool:=e.nodes.foldl markV (List.replicate 16 false)
def Ex.vars (e:Ex):List Int:=varsU e.marks 16
end Go.Am
end
