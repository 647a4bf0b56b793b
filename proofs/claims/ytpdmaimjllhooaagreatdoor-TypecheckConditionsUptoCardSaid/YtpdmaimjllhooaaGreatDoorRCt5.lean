/- Contracts of the program's functions. -/
import Derived.Test.YtpdmaimjllhooaaGreatDoorProg
import Derived.Test.YtpdmaimjllhooaaGreatDoorRCt3
section
set_option maxHeartbeats 16000000
set_option maxRecDepth 100000
namespace Go.Am
open Go.Proofs
def ua (k:Int) (v:Vl):Bool:=decide (v.kind=0∨k=0∨k=4∨k=5)
theorem P_ref07_Suits (k:Int) (v:Vl):PCall EE 163 [int k,v.enc] (bool (ua k v)):=by
 obtain ⟨R,hR⟩:∃ R,R=ua k v:=⟨_,rfl⟩
 rw [← hR]
 unfold ua at hR
 obtain ⟨xk,xn,xt⟩:=v
 dsimp only at hR
 show PCall EE _ [int k,.agg [int xk,int xn,str xt]] _
 refine zr ?_;unhygienic intros
 refine fB T163 [.t 4] ?_
 refine Aq ?_
 exact fBo (h:=by rw [hR,Bool.eq_iff_iff];simp only [ee];simp [or_assoc])
theorem P_ref01_Check (v:Vl):PCall EE 179 [v.enc] (int v.chk):=by
 obtain ⟨R,hR⟩:∃ R,R=v.chk:=⟨_,rfl⟩
 rw [← hR]
 have h0:v.text=⟨#[]⟩↔v.text.toList=[]:=by
  constructor
  · intro h;rw [h];simp
  intro h;exact tq (by rw [h];simp)
 have hz:v.text.toList=[]→(v.text.size:Int)=0:=fun h=>by rw [h0.2 h];rfl
 unfold Vl.chk Vl.sizeE at hR
 obtain ⟨xk,xn,xt⟩:=v
 dsimp only at hR h0 hz
 simp only [ne_eq,h0] at hR
 show PCall EE _ [.agg [int xk,int xn,str xt]] _
 refine zr ?_;unhygienic intros
 have hsn:∀ s:ByteArray,(s.toList == (ByteArray.mk #[]).toList)=decide (s.toList=[]):=by
  intro s
  have hn:(ByteArray.mk #[]).toList=[]:=by simp
  rw [hn]
  cases s.toList<;>rfl
 refine fB T179 [.t 2] ?_
 refine goA 0 ?_
 refine oC (fun c1=>?_) fun c1=>?_
 ·
  simp [ee] at c1
  refine Aq ?_
  exact fI (h:=by rw [hR];simp only [ee,hsn] at *;clear ee hX;grind)
 simp [ee] at c1
 refine goA 0 ?_
 refine oC (fun c2=>?_) fun c2=>?_
 ·
  simp [ee] at c2
  refine goA 0 ?_
  refine oC (fun c3=>?_) fun c3=>?_
  ·
   simp [ee] at c3
   refine Aq ?_
   exact fI (h:=by rw [hR];simp only [ee,hsn] at *;clear ee hX;grind)
  simp [ee] at c3
  refine goA 0 ?_
  refine oC (fun c4=>?_) fun c4=>?_
  ·
   simp [ee] at c4
   refine Aq ?_
   exact fI (h:=by rw [hR];simp only [ee,hsn] at *;clear ee hX;grind)
  simp [ee] at c4
  refine Aq ?_
  exact fI (h:=by rw [hR];simp only [ee,hsn] at *;clear ee hX;grind)
 simp [ee] at c2
 refine goA 0 ?_
 refine oC (fun c5=>?_) fun c5=>?_
 ·
  simp [ee] at c5
  refine Aq ?_
  exact fI (h:=by rw [hR];simp only [ee,hsn] at *;clear ee hX;grind)
 simp [ee] at c5
 refine goA 0 ?_
 refine nsB hX (by conv=>lhs;cbv) ?_
 refine goA 0 ?_
 refine oC (fun c6=>?_) fun c6=>?_
 ·
  simp [ee] at c6
  refine Aq ?_
  exact fI (h:=by rw [hR];simp only [ee,hsn] at *;clear ee hX;grind)
 simp [ee] at c6
 refine Aq ?_
 exact fI (h:=by rw [hR];simp only [ee,hsn] at *;clear ee hX;grind)
theorem P_ref08_uses (o:Int):PCall EE 178 [int o] (.tup [bool (vU o),bool (vP o)]):=by
 obtain ⟨R,hR⟩:∃ R,R=vU o:=⟨_,rfl⟩
 obtain ⟨R2,hR2⟩:∃ R,R=vP o:=⟨_,rfl⟩
 rw [← hR,← hR2]
 unfold vU at hR
 unfold vP at hR2
 refine zr ?_;unhygienic intros
 refine fB T178 [.t 2,.t 3] ?_
 refine Aq ?_
 refine zR rfl rfl ?_
 exact Fz.none (.tup' ⟨.of (congrArg bool (by rw [hR,Bool.eq_iff_iff];simp only [ee];simp;omega)),.of (congrArg bool (by rw [hR2,Bool.eq_iff_iff];simp only [ee];simp)),trivial⟩)
def vJ (o:Int):Int:=if o<0∨12<o then -1 else if o<5 then 0 else if o=12 then 1 else 2
theorem P_ref08_arity (o:Int):PCall EE 177 [int o] (int (vJ o)):=by
 obtain ⟨R,hR⟩:∃ R,R=vJ o:=⟨_,rfl⟩
 rw [← hR]
 unfold vJ at hR
 refine zr ?_;unhygienic intros
 refine fB T177 [.t 2] ?_
 repeat' first
  | (refine uD rfl (fun c=>?_) (fun c=>?_)<;>(try simp [ee] at c))
  | (refine zR rfl rfl (.val ?_);exact congrArg (Value.int .i64) (by rw [hR];(repeat' split)<;>first | rfl | omega))
  | refine go rfl hX 0 (by conv=>lhs;cbv) (by exact trivial) ?_
theorem P_ref08_node (e:Ex) (hlen:e.args.length<1048576):PCall EE 162 [e.enc] (int e.nodeE):=by
 have hu:=P_ref08_uses e.op
 have har:=P_ref08_arity e.op
 have hk:=P_ref01_Check e.val
 have hsu:=P_ref07_Suits e.kind e.val
 have h0:=@Vl.eq0 e.val
 have hcl:=Ex.closed e
 obtain ⟨R,hR⟩:∃ R,R=e.nodeE:=⟨_,rfl⟩
 rw [← hR]
 have hss:1≤e.kind→wi e.kind e.val=ua e.kind e.val:=fun h=>by
  unfold wi ua;rw [Bool.eq_iff_iff];simp;omega
 have hab:wF e.op=decide (0≤vJ e.op):=by
  unfold wF vJ;rw [Bool.eq_iff_iff];simp;(repeat' split)<;>omega
 have han:0≤vJ e.op→wH e.op=vJ e.op:=fun h=>by
  unfold vJ at h;unfold wH vJ;(repeat' split)<;>simp_all
 have hvl:e.val.enc=.agg [int e.val.kind,int e.val.num,str e.val.text]:=rfl
 rw [hvl] at hk hsu
 unfold Ex.nodeE Ex.formB Ex.consE at hR
 generalize vU e.op=uv at *
 generalize vP e.op=uf at *
 generalize wH e.op=an at *
 generalize wF e.op=ab at *
 generalize vJ e.op=ar at *
 generalize wi e.kind e.val=sf at *
 generalize ua e.kind e.val=sr at *
 generalize e.val.chk=ck at *
 obtain ⟨o,a,v,f,k,⟨xk,xn,xt⟩⟩:=e
 simp only [Ex.op,Ex.kind,Ex.val,Ex.args,Ex.var,Ex.fld] at *
 rw [Ex.enc_mk] at hcl ⊢
 dsimp only at *
 refine zr ?_;unhygienic intros
 generalize hes:mapE Ex.enc a=es at *
 have hel:es.length=a.length:=by rw [← hes,zq]
 refine fB T162 [.t 2] ?_
 refine Aq ?_
 refine oPA har ?_
 refine goA 0 ?_
 refine oC (fun c1=>?_) fun c1=>?_
 ·
  simp [ee] at c1
  refine Aq ?_
  exact fG
 simp [ee] at c1
 refine goA 0 ?_
 refine oC (fun c2=>?_) fun c2=>?_
 ·
  simp [ee] at c2
  refine Aq ?_
  exact fG
 simp [ee] at c2
 refine Aq ?_
 refine oPA hu ?_
 refine goA 0 ?_
 refine nsB hX (by conv=>lhs;cbv) ?_
 refine goA 0 ?_
 refine nsB hX (by conv=>lhs;cbv) ?_
 refine goA 0 ?_
 refine oC (fun c3=>?_) fun c3=>?_
 ·
  simp [ee] at c3
  refine Aq ?_
  exact fG
 simp [ee] at c3
 refine goA 0 ?_
 refine nsB hX (by conv=>lhs;cbv) ?_
 refine goA 0 ?_
 refine oC (fun c4=>?_) fun c4=>?_
 ·
  simp [ee] at c4
  refine Aq ?_
  exact fG
 simp [ee] at c4
 refine goA 0 ?_
 refine oC (fun c5=>?_) fun c5=>?_
 ·
  simp [ee] at c5
  refine Aq ?_
  refine oPA hk ?_
  refine goA 0 ?_
  refine oC (fun c6=>?_) fun c6=>?_
  ·
   simp [ee] at c6
   refine Aq ?_
   exact fG
  simp [ee] at c6
  refine goA 0 ?_
  refine zj rfl rfl (fun c7=>?_) (fun c7=>?_)
  ·
   simp [ee] at c7
   refine Aq ?_
   refine oPG hsu ?_
   refine goA 0 ?_
   refine goA 1 ?_
   refine goA 1 ?_
   refine nsB hX (by conv=>lhs;cbv) ?_
   refine goA 0 ?_
   refine oC (fun c8=>?_) fun c8=>?_
   ·
    simp [ee] at c8
    refine Aq ?_
    exact fG
   simp [ee] at c8
   refine goA 0 ?_
   refine nsB hX (by conv=>lhs;cbv) ?_
   refine goA 0 ?_
   refine nsB hX (by conv=>lhs;cbv) ?_
   refine goA 0 ?_
   refine nsB hX (by conv=>lhs;cbv) ?_
   refine goA 0 ?_
   refine oC (fun c9=>?_) fun c9=>?_
   ·
    simp [ee] at c9
    refine Aq ?_
    exact fG
   simp [ee] at c9
   refine Aq ?_
   exact fG
  simp [ee] at c7
  refine Aq ?_
  refine zi rfl rfl ?_
  refine goA 0 ?_
  refine goA 1 ?_
  refine nsB hX (by conv=>lhs;cbv) ?_
  refine goA 0 ?_
  refine nsB hX (by conv=>lhs;cbv) ?_
  refine goA 0 ?_
  refine nsB hX (by conv=>lhs;cbv) ?_
  refine goA 0 ?_
  refine oC (fun c10=>?_) fun c10=>?_
  ·
   simp [ee] at c10
   refine Aq ?_
   exact fG
  simp [ee] at c10
  refine Aq ?_
  exact fG
 simp [ee] at c5
 refine goA 0 ?_
 refine zj rfl rfl (fun c11=>?_) (fun c11=>?_)
 ·
  simp [ee] at c11
  refine Aq ?_
  refine oPG hsu ?_
  refine goA 0 ?_
  refine goA 1 ?_
  refine goA 1 ?_
  refine nsB hX (by conv=>lhs;cbv) ?_
  refine goA 0 ?_
  refine oC (fun c12=>?_) fun c12=>?_
  ·
   simp [ee] at c12
   refine Aq ?_
   exact fG
  simp [ee] at c12
  refine goA 0 ?_
  refine nsB hX (by conv=>lhs;cbv) ?_
  refine goA 0 ?_
  refine nsB hX (by conv=>lhs;cbv) ?_
  refine goA 0 ?_
  refine nsB hX (by conv=>lhs;cbv) ?_
  refine goA 0 ?_
  refine oC (fun c13=>?_) fun c13=>?_
  ·
   simp [ee] at c13
   refine Aq ?_
   exact fG
  simp [ee] at c13
  refine Aq ?_
  exact fG
 simp [ee] at c11
 refine Aq ?_
 refine zi rfl rfl ?_
 refine goA 0 ?_
 refine goA 1 ?_
 refine nsB hX (by conv=>lhs;cbv) ?_
 refine goA 0 ?_
 refine nsB hX (by conv=>lhs;cbv) ?_
 refine goA 0 ?_
 refine nsB hX (by conv=>lhs;cbv) ?_
 refine goA 0 ?_
 refine oC (fun c14=>?_) fun c14=>?_
 ·
  simp [ee] at c14
  refine Aq ?_
  exact fG
 simp [ee] at c14
 refine Aq ?_
 exact fG
theorem P_ref08_Same : ∀ x y:Ex,x.Sm→PCall EE 129 [x.enc,y.enc] (bool (eqB x y)):=by
 refine Ex.ind ?_
 intro o a v f k x ih y hs
 obtain ⟨o2,a2,v2,f2,k2,x2⟩:=y
 obtain ⟨xk,xn,xt⟩:=x
 obtain ⟨yk,yn,yt⟩:=x2
 have hlen:=hs.len
 have hih:∀ q∈a,∀ q2,PCall EE 129 [q.enc,q2.enc] (bool (eqB q q2)):=fun q hq q2=>ih q hq q2 (hs.arg hq)
 have hcl:=Ex.closedI a
 have hcl2:=Ex.closedI a2
 obtain ⟨R,hR⟩:∃ R,R=eqB (Ex.mk o a v f k ⟨xk,xn,xt⟩) (Ex.mk o2 a2 v2 f2 k2 ⟨yk,yn,yt⟩):=⟨_,rfl⟩
 rw [← hR,Ex.enc_mk,Ex.enc_mk]
 clear ih hs
 refine zr ?_;unhygienic intros
 generalize hes:mapE Ex.enc a=es at *
 generalize hes2:mapE Ex.enc a2=es2 at *
 have hel:es.length=a.length:=by rw [← hes,zq]
 have hel2:es2.length=a2.length:=by rw [← hes2,zq]
 refine fB T129 [.t 4] ?_
 refine goA 0 ?_
 refine oC (fun c1=>?_) fun c1=>?_
 · simp [ee] at c1
   have hR:R=false:=by
    rw [hR];refine uo fun h=>?_
    simp only [Ex.mk.injEq,Vl.mk.injEq] at h
    obtain ⟨rfl,rfl,rfl,rfl,rfl,rfl,rfl,rfl⟩:=h
    simp [hel,hel2] at c1
   refine Aq ?_
   exact fBo (h:=hR.symm)
 simp [ee] at c1
 obtain ⟨⟨⟨⟨⟨h1,h2⟩,h3⟩,h4⟩,⟨h5,h6,h7⟩⟩,h8⟩:=c1
 have h7:=tq h7
 subst h1 h2 h3 h4 h5 h6 h7
 have hl8:a.length=a2.length:=by omega
 have hR:R=eqB a a2:=by
  rw [hR]
  by_cases h:a=a2
  · rw [h,uW rfl,uW rfl]
  rw [uo h,uo (by simp [h])]
 refine Aq ?_
 refine zf (ι:=List Ex × List Ex × List Ex × List Ex × Int) (fun p=>([(5,int p.2.2.2.2),(2,.ptr 0 0),(3,.ptr 1 0)],[.cells [int o,.isl 8 es,int v,int f,int k,int xk,int xn,str xt],.cells [int o,.isl 8 es2,int v,int f,int k,int xk,int xn,str xt]])) (fun p=>a=p.1++p.2.1∧a2=p.2.2.1++p.2.2.2.1∧p.2.2.2.2=p.1.length∧p.1=p.2.2.1) (fun p=>p.2.1.length) ([],a,[],a2,0) ⟨rfl,rfl,rfl,rfl⟩ ?_ ?_
 · exact (eS [.to 0,.to 1] [some 0,some 1])
 rintro ⟨d,r,d2,r2,i⟩ ⟨g1,g2,gi,gd⟩
 dsimp only at g1 g2 gi gd ⊢
 subst gd
 cases r with
 | nil =>
  have L1:=zu g1
  try simp only [List.length] at L1
  have hc:iLt i (lenA es)=false:=yW e_iLt e_lenA (by omega)
  have L2:=zu g2
  try simp only [List.length] at L2
  have hr2:r2=[]:=List.length_eq_zero_iff.1 (by omega)
  have hR:R=true:=by rw [hR];exact uW (by rw [g1,g2,hr2])
  have fz:=hc
  refine Cq ?_
  refine Aq ?_
  refine zo ?_
  refine Aq ?_
  exact fBo (h:=hR.symm)
 | cons q r =>
  have L1:=zu g1
  try simp only [List.length] at L1
  have hc:iLt i (lenA es)=true:=yY e_iLt e_lenA (by omega)
  have hat:=zP e_atA hes g1 gi
  have L2:=zu g2
  try simp only [List.length] at L2
  cases r2 with
  | nil=>exfalso;simp at L2;omega
  | cons q2 r2 =>
   have hat2:=zP e_atA hes2 g2 gi
   have hq:=hih q (by rw [g1];simp) q2
   have hqc:=Ex.closed q
   have hqc2:=Ex.closed q2
   obtain ⟨qO,qA,qV,qF,qK,qXk,qXn,qXt,hx⟩:=Ex.form q
   obtain ⟨q2O,q2A,q2V,q2F,q2K,q2Xk,q2Xn,q2Xt,hx2⟩:=Ex.form q2
   rw [hx,hx2] at hq
   rw [hx] at hat hqc
   rw [hx2] at hat2 hqc2
   have hi2:iAdd .i64 i 1=((d++[q]).length:Int):=by rw [List.length_append];exact zJ e_iAdd gi (by omega)
   by_cases hqq:q=q2
   · rw [uW hqq] at hq
     have hn:bNot true=false:=by simp [ee]
     have fz:=And.intro hc (And.intro hat (And.intro hat2 hn))
     refine Cq ?_
     refine Cr ?_
     refine zb rfl (by conv=>lhs;cbv) rfl ?_
     refine tgC ?_
     refine oPT hq ?_
     refine tgA ?_
     refine zW ⟨rfl,?_,?_⟩
     · simp only [za,zZ,List.cons_append,List.nil_append,List.append_nil];and_intros<;>first | trivial | (intro hp;first | rfl | exact absurd (show false=true from hp) Bool.false_ne_true)
     refine Cq ?_
     refine Aq ?_
     refine zw (d++[q],r,d++[q2],r2,iAdd .i64 i 1) ⟨by simp [g1],by simp [g2],hi2,by simp [hqq]⟩ (by simp) (eS [.to 0,.to 1] [some 0,some 1])
   rw [uo hqq] at hq
   have hn:bNot false=true:=by simp [ee]
   have hR:R=false:=by rw [hR];exact uo (by rw [g1,g2];simp [hqq])
   have fz:=And.intro hc (And.intro hat (And.intro hat2 hn))
   refine Cq ?_
   refine Cr ?_
   refine zb rfl (by conv=>lhs;cbv) rfl ?_
   refine tgC ?_
   refine oPT hq ?_
   refine tgA ?_
   refine zW ⟨rfl,?_,?_⟩
   · simp only [za,zZ,List.cons_append,List.nil_append,List.append_nil];and_intros<;>first | trivial | (intro hp;first | rfl | exact absurd (show false=true from hp) Bool.false_ne_true)
   refine Cq ?_
   refine Aq ?_
   refine zl ?_
   refine Aq ?_
   exact fBo (h:=hR.symm)
theorem P_Negates (p:Pat):PCall EE 105 [p.enc] (bool (decide (p.op=5∨p.op=9))):=by
 obtain ⟨R,hR⟩:∃ R,R=decide (p.op=5∨p.op=9):=⟨_,rfl⟩
 rw [← hR]
 have hcl:=Pat.closed p
 obtain ⟨pO,pA,pT,pV,pS,pN,pCo,pCa,pCv,pCf,pCk,pXk,pXn,pXt,hx,hxc,hpO,hpA,hpT,hpV,hpS,hpN⟩:=Pat.form2 p
 rw [hx] at hcl ⊢
 rw [← hpO] at hR
 refine zr ?_;unhygienic intros
 refine fB T105 [.t 2] ?_
 refine Aq ?_
 exact fBo (h:=by rw [hR,Bool.eq_iff_iff];simp only [ee];simp)
theorem P_Times (p:Pat):PCall EE 106 [p.enc] (bool (y8 p.op)):=by
 obtain ⟨R,hR⟩:∃ R,R=y8 p.op:=⟨_,rfl⟩
 rw [← hR]
 unfold y8 at hR
 have hcl:=Pat.closed p
 obtain ⟨pO,pA,pT,pV,pS,pN,pCo,pCa,pCv,pCf,pCk,pXk,pXn,pXt,hx,hxc,hpO,hpA,hpT,hpV,hpS,hpN⟩:=Pat.form2 p
 rw [hx] at hcl ⊢
 rw [← hpO] at hR
 refine zr ?_;unhygienic intros
 refine fB T106 [.t 2] ?_
 refine Aq ?_
 exact fBo (h:=by rw [hR,Bool.eq_iff_iff];simp only [ee];simp)
theorem P_variable (p:Pat):PCall EE 104 [p.enc] (bool (zD p.op)):=by
 have h1:=P_Negates p
 obtain ⟨R,hR⟩:∃ R,R=zD p.op:=⟨_,rfl⟩
 rw [← hR]
 unfold zD at hR
 have hcl:=Pat.closed p
 obtain ⟨pO,pA,pT,pV,pS,pN,pCo,pCa,pCv,pCf,pCk,pXk,pXn,pXt,hx,hxc,hpO,hpA,hpT,hpV,hpS,hpN⟩:=Pat.form2 p
 rw [hx] at h1 hcl ⊢
 rw [← hpO] at hR h1
 refine zr ?_;unhygienic intros
 refine fB T104 [.t 2] ?_
 refine goA 0 ?_
 refine zj rfl rfl (fun c1=>?_) (fun c1=>?_)
 ·
  simp [ee] at c1
  refine Aq ?_
  exact fBo (h:=by rw [hR];clear ee hX;grind)
 simp [ee] at c1
 refine Aq ?_
 refine oPG h1 ?_
 refine Aq ?_
 exact fBo (h:=by rw [hR];clear ee hX;grind)
theorem P_condition (p:Pat):PCall EE 127 [p.enc] (bool (xO p.op)):=by
 have h1:=P_variable p
 obtain ⟨R,hR⟩:∃ R,R=xO p.op:=⟨_,rfl⟩
 rw [← hR]
 have h2:xO p.op=(zD p.op || decide (p.op=7)):=by unfold xO zD;rw [Bool.eq_iff_iff];simp;omega
 rw [h2] at hR
 generalize zD p.op=ty at *
 have hcl:=Pat.closed p
 obtain ⟨pO,pA,pT,pV,pS,pN,pCo,pCa,pCv,pCf,pCk,pXk,pXn,pXt,hx,hxc,hpO,hpA,hpT,hpV,hpS,hpN⟩:=Pat.form2 p
 rw [hx] at h1 hcl ⊢
 rw [← hpO] at hR
 refine zr ?_;unhygienic intros
 refine fB T127 [.t 2] ?_
 refine Aq ?_
 refine oPA h1 ?_
 refine Aq ?_
 exact fBo (h:=by rw [hR];first | (rw [Bool.eq_iff_iff];simp only [ee];simp;done) | (simp only [ee] at *;simp at *;simp [*]))
theorem tH (u:Bool) (n m:Int):PCall EE 128 [bool u,int n,int m] (bool (u && decide (n<0∨m<n))):=by
 obtain ⟨R,hR⟩:∃ R,R=(u && decide (n<0∨m<n)):=⟨_,rfl⟩
 rw [← hR]
 refine zr ?_;unhygienic intros
 refine fB T128 [.t 6] ?_
 refine goA 0 ?_
 refine nsB hX (by conv=>lhs;cbv) ?_
 refine Aq ?_
 exact fBo (h:=by rw [hR];first | (rw [Bool.eq_iff_iff];simp only [ee];simp;done) | (simp only [ee] at *;simp at *;simp [*]))
theorem P_ref09_arity (p:Pat) (_hlen:p.args.length<1048576):PCall EE 126 [p.enc] (bool (decide (if p.op=0 then p.args.length=0 else if p.op=1∨p.op=2∨p.op=3 then 2≤p.args.length else if p.op=8 then p.args.length=2 else p.args.length=1))):=by
 obtain ⟨R,hR⟩:∃ R,R=(decide (if p.op=0 then p.args.length=0 else if p.op=1∨p.op=2∨p.op=3 then 2≤p.args.length else if p.op=8 then p.args.length=2 else p.args.length=1)):=⟨_,rfl⟩
 rw [← hR]
 have hcl:=Pat.closed p
 obtain ⟨pO,pA,pT,pV,pS,pN,pCo,pCa,pCv,pCf,pCk,pXk,pXn,pXt,hx,hxc,hpO,hpA,hpT,hpV,hpS,hpN⟩:=Pat.form2 p
 have hel:pA.length=p.args.length:=by rw [hpA,zq]
 rw [hx] at hcl ⊢
 rw [← hpO] at hR
 clear hpA
 generalize p.args.length=n at *
 refine zr ?_;unhygienic intros
 refine fB T126 [.t 2] ?_
 refine goA 0 ?_
 refine oC (fun c1=>?_) fun c1=>?_
 ·
  simp [ee] at c1
  refine Aq ?_
  exact fBo (h:=by rw [hR,Bool.eq_iff_iff];simp only [ee];clear ee hX;simp;grind)
 simp [ee] at c1
 refine goA 0 ?_
 refine oC (fun c2=>?_) fun c2=>?_
 ·
  simp [ee] at c2
  refine goA 0 ?_
  refine oC (fun c3=>?_) fun c3=>?_
  ·
   simp [ee] at c3
   refine Aq ?_
   exact fBo (h:=by rw [hR,Bool.eq_iff_iff];simp only [ee];clear ee hX;simp;grind)
  simp [ee] at c3
  refine goA 0 ?_
  refine oC (fun c4=>?_) fun c4=>?_
  ·
   simp [ee] at c4
   refine Aq ?_
   exact fBo (h:=by rw [hR,Bool.eq_iff_iff];simp only [ee];clear ee hX;simp;grind)
  simp [ee] at c4
  refine Aq ?_
  exact fBo (h:=by rw [hR,Bool.eq_iff_iff];simp only [ee];clear ee hX;simp;grind)
 simp [ee] at c2
 refine goA 0 ?_
 refine oC (fun c5=>?_) fun c5=>?_
 ·
  simp [ee] at c5
  refine goA 0 ?_
  refine oC (fun c6=>?_) fun c6=>?_
  ·
   simp [ee] at c6
   refine Aq ?_
   exact fBo (h:=by rw [hR,Bool.eq_iff_iff];simp only [ee];clear ee hX;simp;grind)
  simp [ee] at c6
  refine goA 0 ?_
  refine oC (fun c7=>?_) fun c7=>?_
  ·
   simp [ee] at c7
   refine Aq ?_
   exact fBo (h:=by rw [hR,Bool.eq_iff_iff];simp only [ee];clear ee hX;simp;grind)
  simp [ee] at c7
  refine Aq ?_
  exact fBo (h:=by rw [hR,Bool.eq_iff_iff];simp only [ee];clear ee hX;simp;grind)
 simp [ee] at c5
 refine goA 0 ?_
 refine oC (fun c8=>?_) fun c8=>?_
 ·
  simp [ee] at c8
  refine Aq ?_
  exact fBo (h:=by rw [hR,Bool.eq_iff_iff];simp only [ee];clear ee hX;simp;grind)
 simp [ee] at c8
 refine goA 0 ?_
 refine oC (fun c9=>?_) fun c9=>?_
 ·
  simp [ee] at c9
  refine Aq ?_
  exact fBo (h:=by rw [hR,Bool.eq_iff_iff];simp only [ee];clear ee hX;simp;grind)
 simp [ee] at c9
 refine Aq ?_
 exact fBo (h:=by rw [hR,Bool.eq_iff_iff];simp only [ee];clear ee hX;simp;grind)
theorem yG : ∀ p:Pat,p.Sm→PCall EE 60 [p.enc] (.isl 14 (mapE Pat.enc p.nodes)):=by
 refine Pat.ind ?_
 intro o a t v s n c ih hs
 obtain ⟨pp,hpp⟩:∃ pp,pp=Pat.mk o a t v s n c:=⟨_,rfl⟩
 have hpe:pp.enc=(Pat.mk o a t v s n c).enc:=by rw [hpp]
 obtain ⟨co,ca,cv,cf,ck,xk,xn,xt⟩:=c
 have hlen:=hs.len
 have hih:∀ q∈a,PCall EE 60 [q.enc] (.isl 14 (mapE Pat.enc q.nodes)):=fun q hq=>ih q hq (hs.arg hq)
 have hcl:=Pat.closedI a
 have hce:=Ex.closedI ca
 have hcnt:Pat.cntL a≤1048575:=by have hs:=hs.1;simp only [Pat.cnt] at hs;omega
 simp only [Pat.nodes]
 rw [← hpp]
 rw [Pat.enc_mk] at hpe
 clear hpp
 have hpc:=Pat.closed pp
 rw [hpe] at hpc ⊢
 refine zr ?_;unhygienic intros
 generalize hes:mapE Pat.enc a=es at *
 generalize mapE Ex.enc ca=ec at *
 have hel:es.length=a.length:=by rw [← hes,zq]
 have hone:∀ x,AV.closedL [x]=x.closed:=by simp [AV.closedL]
 have hw0:[AV.agg [int o,.isl 14 es,int t,int v,int s,int n,int co,.isl 8 ec,int cv,int cf,int ck,int xk,int xn,str xt]]=mapE Pat.enc (pp :: Pat.nodesL []):=by rw [zk,Pat.nodesL,List.map_cons,hpe];rfl
 have hcw0:AV.closedL [AV.agg [int o,.isl 14 es,int t,int v,int s,int n,int co,.isl 8 ec,int cv,int cf,int ck,int xk,int xn,str xt]]=true:=by rw [hone];exact hpc
 refine fB T60 [.t 2] ?_
 refine Aq ?_
 refine zf (ι:=List Pat × List Pat × Int × Nat × List AV) (fun p=>([(3,.sl 1 14 0 p.2.2.2.1),(4,int p.2.2.1),(1,.ptr 0 0)],[.cells [int o,.isl 14 es,int t,int v,int s,int n,int co,.isl 8 ec,int cv,int cf,int ck,int xk,int xn,str xt],.arr 14 p.2.2.2.2])) (fun p=>a=p.1++p.2.1∧p.2.2.1=p.1.length∧p.2.2.2.1=p.2.2.2.2.length∧p.2.2.2.2=mapE Pat.enc (pp :: Pat.nodesL p.1)) (fun p=>p.2.1.length) ([],a,0,1,[AV.agg [int o,.isl 14 es,int t,int v,int s,int n,int co,.isl 8 ec,int cv,int cf,int ck,int xk,int xn,str xt]]) ⟨rfl,rfl,rfl,hw0⟩ ?_ ?_
 · exact (eS [.to 0,.to 1] [some 0,some 1])
 rintro ⟨d,r,i,m,w⟩ ⟨g1,gi,gm,gw⟩
 dsimp only at g1 gi gm gw ⊢
 have hcw:AV.closedL w=true:=by rw [gw];exact Pat.closedL _
 have hm:m=Pat.cntL d+1:=by rw [gm,gw,zq,List.length_cons,Pat.nodesL_len']
 cases r with
 | nil =>
  have L1:=zu g1
  try simp only [List.length] at L1
  have hc:iLt i (lenA es)=false:=yW e_iLt e_lenA (by omega)
  rw [List.append_nil] at g1
  rw [g1,← gw]
  have fz:=hc
  refine Cq ?_
  refine Aq ?_
  refine zo ?_
  refine Aq ?_
  refine zR rfl rfl ?_
  exact ⟨[.gone,.isl 14 (w)],⟨trivial,⟨_,rfl,(zp _ hcw).symm⟩,trivial⟩,.of (yh rfl (by omega))⟩
 | cons q r =>
  have L1:=zu g1
  try simp only [List.length] at L1
  have hc:iLt i (lenA es)=true:=yY e_iLt e_lenA (by omega)
  have hat:=zP e_atA hes g1 gi
  have hq:=hih q (by rw [g1];simp)
  have hqc:=Pat.closed q
  rw [g1,Pat.cntL_append,Pat.cntL] at hcnt
  have hfit:=fitPat q.nodes
  have hcq:=Pat.closedL q.nodes
  have hql:(mapE Pat.enc q.nodes).length=q.cnt:=by rw [zq,Pat.nodes_len]
  obtain ⟨qO,qA,qT,qV,qS,qN,qCo,qCa,qCv,qCf,qCk,qXk,qXn,qXt,hx⟩:=Pat.form q
  rw [hx] at hq hat hqc
  have hw2:catA (dropA w 0) (mapE Pat.enc q.nodes)=mapE Pat.enc (pp :: Pat.nodesL (d++[q])):=by
   simp only [ee];rw [gw,List.drop_zero,zk,zk,zk,← List.map_append,Pat.nodesL_append];simp [Pat.nodesL]
  generalize mapE Pat.enc q.nodes=eq at *
  have hi2:iAdd .i64 i 1=((d++[q]).length:Int):=by rw [List.length_append];exact zJ e_iAdd gi (by omega)
  have hm2:addN m (lenN eq)=(catA (dropA w 0) eq).length:=by simp only [ee];simp [gm]
  have hcw2:AV.closedL (catA (dropA w 0) eq)=true:=by rw [hw2];exact Pat.closedL _
  have fz:=And.intro hc hat
  refine Cq ?_
  refine Cr ?_
  refine oPA hq ?_
  refine Aq ?_
  refine zw (d++[q],r,iAdd .i64 i 1,addN m (lenN eq),catA (dropA w 0) eq) ⟨by simp [g1],hi2,hm2,hw2⟩ (by simp) (eS [.to 0,.gone,.to 1] [some 0,some 2])
def varsU (S:List Bool):Nat→List Int
 | 0=>[]
 | j+1=>varsU S j++(if S.getD j false then [(j:Int)] else [])
def Ex.marks (e:Ex):List Bool:=e.nodes.foldl markV (List.replicate 16 false)
def Ex.vars (e:Ex):List Int:=varsU e.marks 16
end Go.Am
end
