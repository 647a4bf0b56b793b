/- Contracts of the program's functions. -/
import Derived.Test.YtpfnahcfnclgdaaGreatDoorProg
import Derived.Test.YtpfnahcfnclgdaaGreatDoorPCt4
noncomputable section
set_option maxHeartbeats 16000000
set_option maxRecDepth 100000
namespace Go.Am
open Go.Proofs
mutual
def Ex.tot (lim:Nat):Ex→Nat
 | .mk _ a _ _ _ _=>Ex.totL lim 1 a
def Ex.totL (lim:Nat):Nat→List Ex→Nat
 | n,[]=>n
 | n,e :: r=>if n≤lim then Ex.totL lim (n+e.tot lim) r else n
end
theorem Ex.totL_le {lim:Nat} {l:List Ex} (h:∀ e∈l,e.tot lim≤e.cnt):∀ n,Ex.totL lim n l≤n+Ex.cntL l:=by
 induction l with
 | nil=>intro n;simp [Ex.totL]
 | cons e r ih =>
  intro n
  have h1:=h e (by simp)
  have h2:=ih (fun e he=>h e (by simp [he])) (n+e.tot lim)
  simp only [Ex.totL,Ex.cntL];split<;>omega
theorem Ex.tot_le (lim:Nat):∀ e:Ex,e.tot lim≤e.cnt:=Ex.ind fun o a v f k x h=>by
 have:=Ex.totL_le h 1
 simp only [Ex.tot,Ex.cnt];omega
theorem Ex.totL_eq {lim:Nat} {l:List Ex} (h:∀ e∈l,e.cnt≤lim→e.tot lim=e.cnt):∀ n,n+Ex.cntL l≤lim→Ex.totL lim n l=n+Ex.cntL l:=by
 induction l with
 | nil=>intro n _;simp [Ex.totL,Ex.cntL]
 | cons e r ih =>
  intro n hn
  simp only [Ex.cntL] at hn ⊢
  have h1:=h e (by simp) (by omega)
  rw [Ex.totL,if_pos (by omega),ih (fun e he=>h e (by simp [he])) _ (by omega)];omega
theorem Ex.tot_eq {lim:Nat}:∀ e:Ex,e.cnt≤lim→e.tot lim=e.cnt:=Ex.ind fun o a v f k x h hl=>by
 simp only [Ex.tot,Ex.cnt] at hl ⊢
 exact Ex.totL_eq h 1 hl
theorem Ex.totL_gt {lim:Nat} {l:List Ex} (h:∀ e∈l,lim<e.cnt→lim<e.tot lim):∀ n,lim<n+Ex.cntL l→lim<Ex.totL lim n l:=by
 induction l with
 | nil=>intro n hn;simpa [Ex.totL,Ex.cntL] using hn
 | cons e r ih =>
  intro n hn
  simp only [Ex.cntL] at hn
  rw [Ex.totL]
  split
  · refine ih (fun e he=>h e (by simp [he])) _ ?_
    by_cases hc:e.cnt≤lim
    · rw [Ex.tot_eq e hc];omega
    have:=h e (by simp) (by omega);omega
  omega
theorem Ex.tot_gt {lim:Nat}:∀ e:Ex,lim<e.cnt→lim<e.tot lim:=Ex.ind fun o a v f k x h hl=>by
 simp only [Ex.tot,Ex.cnt] at hl ⊢
 exact Ex.totL_gt h 1 hl
theorem Ex.tot_iff (e:Ex) (lim:Nat):e.tot lim≤lim↔e.cnt≤lim:=by
 by_cases h:e.cnt≤lim
 · rw [Ex.tot_eq e h]
 have:=Ex.tot_gt (lim:=lim) e (by omega);omega
theorem P_ref08_Count (lim:Nat) (hlim:lim≤1099511627776):∀ p:Ex,p.Sm→PCall EE 84 [p.enc,int lim] (int (p.tot lim)):=by
 generalize hli:(lim:Int)=li
 refine Ex.ind ?_
 intro o a v f k x ih hs
 obtain ⟨xk,xn,xt⟩:=x
 have hlen:=hs.len
 have hih:∀ q∈a,PCall EE 84 [q.enc,int li] (int (q.tot lim)):=fun q hq=>ih q hq (hs.arg hq)
 have hcl:=Ex.closedI a
 have hcnt:Ex.cntL a≤1048576:=by unfold Ex.Sm at hs;simp only [Ex.cnt] at hs;omega
 have hde:=fun q:Ex=>Ex.tot_le lim q
 simp only [Ex.tot]
 obtain ⟨R,hR⟩:∃ R,R=Ex.totL lim 1 a:=⟨_,rfl⟩
 rw [← hR,Ex.enc_mk]
 refine zo ?_;unhygienic intros
 generalize hes:zy Ex.enc a=es at *
 have hel:es.length=a.length:=by rw [← hes,zp]
 refine fB T84 [.t 4] ?_
 refine Aq ?_
 refine ze (ι:=List Ex × List Ex × Int × Int) (fun p=>([(5,int p.2.2.2),(6,int p.2.2.1),(1,int li),(2,.ptr 0 0)],[.cells [int o,.isl 8 es,int v,int f,int k,int xk,int xn,str xt]])) (fun p=>a=p.1++p.2.1∧p.2.2.1=p.1.length∧p.2.2.2≤1+Ex.cntL p.1∧0≤p.2.2.2∧R=Ex.totL lim p.2.2.2.toNat p.2.1) (fun p=>p.2.1.length) ([],a,0,1) ⟨rfl,rfl,by simp [Ex.cntL],by simp,hR⟩ ?_ ?_
 · exact (eS [.to 0] [some 0])
 rintro ⟨d,r,i,nn⟩ ⟨g1,gi,gn,gp,gt⟩
 dsimp only at g1 gi gn gp gt ⊢
 have hnt:(nn.toNat:Int)=nn:=Int.toNat_of_nonneg gp
 cases r with
 | nil =>
  have L1:=lS g1
  have hc:iLt i (lenA es)=false:=xR e_iLt e_lenA (by omega)
  rw [Ex.totL] at gt
  have hv:nn=(R:Int):=by omega
  have hb:∀ b,bAnd false b=false:=by simp [ee]
  have fz:=And.intro hc hb
  refine Cq ?_
  refine Aq ?_
  refine zk ?_
  refine Aq ?_
  exact fI (h:=hv)
 | cons q r =>
  have L1:=lS g1
  have hc:iLt i (lenA es)=true:=xU e_iLt e_lenA (by omega)
  have hat:=yX e_atA hes g1 gi
  have hq:=hih q (by rw [g1];simp)
  have hqc:=Ex.closed q
  have hqd:=hde q
  rw [g1,Ex.cntL_append,Ex.cntL] at hcnt
  obtain ⟨qO,qA,qV,qF,qK,qXk,qXn,qXt,hx⟩:=Ex.form q
  rw [hx] at hq hat hqc
  have hb:∀ b,bAnd true b=b:=by simp [ee]
  rw [Ex.totL] at gt
  by_cases hle:nn≤li
  · have h2:iLe nn li=true:=by simp [ee];omega
    rw [if_pos (by omega)] at gt
    generalize hqn:(q.tot lim:Int)=qn at hq
    have hn2:iAdd .i64 nn qn=nn+qn:=uh e_iAdd (by omega) (by omega)
    have hi2:iAdd .i64 i 1=((d++[q]).length:Int):=by rw [List.length_append];exact yh e_iAdd gi (by omega)
    have hn4:iAdd .i64 nn qn≤1+Ex.cntL (d++[q])∧0≤iAdd .i64 nn qn:=by rw [Ex.cntL_append,Ex.cntL,Ex.cntL,hn2];omega
    have hn3:(iAdd .i64 nn qn).toNat=nn.toNat+q.tot lim:=by omega
    have fz:=And.intro hc (And.intro hat (And.intro hb h2))
    refine Cq ?_
    refine Cr ?_
    refine oPA hq ?_
    refine Aq ?_
    refine zm (d++[q],r,iAdd .i64 i 1,iAdd .i64 nn qn) ⟨by simp [g1],hi2,hn4.1,hn4.2,hn3 ▸ gt⟩ (by simp) (eS [.to 0] [some 0])
  have h2:iLe nn li=false:=by simp [ee];omega
  rw [if_neg (by omega)] at gt
  have hv:nn=(R:Int):=by omega
  have fz:=And.intro hc (And.intro hat (And.intro hb h2))
  refine Cq ?_
  refine Aq ?_
  refine zk ?_
  refine Aq ?_
  exact fI (h:=hv)
theorem P_ref08_Depth : ∀ p:Ex,p.Sm→PCall EE 85 [p.enc] (int p.dep):=by
 refine Ex.ind ?_
 intro o a v f k x ih hs
 obtain ⟨xk,xn,xt⟩:=x
 have hlen:=hs.len
 have hih:∀ q∈a,PCall EE 85 [q.enc] (int q.dep):=fun q hq=>ih q hq (hs.arg hq)
 have hcl:=Ex.closedI a
 have hcnt:Ex.cntL a≤1048576:=by unfold Ex.Sm at hs;simp only [Ex.cnt] at hs;omega
 have hde:=fun q:Ex=>Ex.dep_le q
 simp only [Ex.dep]
 obtain ⟨R,hR⟩:∃ R,R=Ex.depL 0 a:=⟨_,rfl⟩
 rw [← hR,Ex.enc_mk]
 refine zo ?_;unhygienic intros
 generalize hes:zy Ex.enc a=es at *
 have hel:es.length=a.length:=by rw [← hes,zp]
 refine fB T85 [.t 2] ?_
 refine Aq ?_
 refine ze (ι:=List Ex × List Ex × Int × Int) (fun p=>([(3,int p.2.2.2),(4,int p.2.2.1),(1,.ptr 0 0)],[.cells [int o,.isl 8 es,int v,int f,int k,int xk,int xn,str xt]])) (fun p=>a=p.1++p.2.1∧p.2.2.1=p.1.length∧p.2.2.2≤1048576∧0≤p.2.2.2∧R=Ex.depL p.2.2.2.toNat p.2.1) (fun p=>p.2.1.length) ([],a,0,0) ⟨rfl,rfl,by simp,by simp,hR⟩ ?_ ?_
 · exact (eS [.to 0] [some 0])
 rintro ⟨d,r,i,dd⟩ ⟨g1,gi,gn,gp,gt⟩
 dsimp only at g1 gi gn gp gt ⊢
 cases r with
 | nil =>
  have L1:=lS g1
  have hc:iLt i (lenA es)=false:=xR e_iLt e_lenA (by omega)
  rw [Ex.depL] at gt
  have ha1:iAdd .i64 dd 1=((R+1:Nat):Int):=by rw [uh e_iAdd (by omega) (by omega)];omega
  have fz:=hc
  refine Cq ?_
  refine Aq ?_
  refine zk ?_
  refine Aq ?_
  exact fI (h:=ha1)
 | cons q r =>
  have L1:=lS g1
  have hc:iLt i (lenA es)=true:=xU e_iLt e_lenA (by omega)
  have hat:=yX e_atA hes g1 gi
  have hq:=hih q (by rw [g1];simp)
  have hqc:=Ex.closed q
  have hqd:=hde q
  rw [g1,Ex.cntL_append,Ex.cntL] at hcnt
  obtain ⟨qO,qA,qV,qF,qK,qXk,qXn,qXt,hx⟩:=Ex.form q
  rw [hx] at hq hat hqc
  rw [Ex.depL] at gt
  generalize hqn:(q.dep:Int)=qn at hq
  have hd2:iMax dd qn=((max dd.toNat q.dep:Nat):Int):=by simp only [ee];split<;>omega
  have hd3:(iMax dd qn).toNat=max dd.toNat q.dep:=by omega
  have hi2:iAdd .i64 i 1=((d++[q]).length:Int):=by rw [List.length_append];exact yh e_iAdd gi (by omega)
  have fz:=And.intro hc hat
  refine Cq ?_
  refine Cr ?_
  refine oPA hq ?_
  refine Aq ?_
  refine zm (d++[q],r,iAdd .i64 i 1,iMax dd qn) ⟨by simp [g1],hi2,by show iMax dd qn≤1048576;omega,by show 0≤iMax dd qn;omega,hd3 ▸ gt⟩ (by simp) (eS [.to 0] [some 0])
theorem P_ref09_Depth : ∀ p:Pat,p.Sm→PCall EE 38 [p.enc] (int p.dep):=by
 refine Pat.ind ?_
 intro o a t v s n c ih hs
 obtain ⟨co,ca,cv,cf,ck,xk,xn,xt⟩:=c
 have hlen:=hs.len
 have hih:∀ q∈a,PCall EE 38 [q.enc] (int q.dep):=fun q hq=>ih q hq (hs.arg hq)
 have hcl:=Pat.closedI a
 have hce:=Ex.closedI ca
 have hcnt:Pat.cntL a≤1048576:=by have hs:=hs.1;simp only [Pat.cnt] at hs;omega
 have hde:=fun q:Pat=>Pat.dep_le q
 simp only [Pat.dep]
 obtain ⟨R,hR⟩:∃ R,R=Pat.depL 0 a:=⟨_,rfl⟩
 rw [← hR,Pat.enc_mk]
 refine zo ?_;unhygienic intros
 generalize hes:zy Pat.enc a=es at *
 generalize zy Ex.enc ca=ec at *
 have hel:es.length=a.length:=by rw [← hes,zp]
 refine fB T38 [.t 2] ?_
 refine Aq ?_
 refine ze (ι:=List Pat × List Pat × Int × Int) (fun p=>([(3,int p.2.2.2),(4,int p.2.2.1),(1,.ptr 0 0)],[.cells [int o,.isl 14 es,int t,int v,int s,int n,int co,.isl 8 ec,int cv,int cf,int ck,int xk,int xn,str xt]])) (fun p=>a=p.1++p.2.1∧p.2.2.1=p.1.length∧p.2.2.2≤1048576∧0≤p.2.2.2∧R=Pat.depL p.2.2.2.toNat p.2.1) (fun p=>p.2.1.length) ([],a,0,0) ⟨rfl,rfl,by simp,by simp,hR⟩ ?_ ?_
 · exact (eS [.to 0] [some 0])
 rintro ⟨d,r,i,dd⟩ ⟨g1,gi,gn,gp,gt⟩
 dsimp only at g1 gi gn gp gt ⊢
 cases r with
 | nil =>
  have L1:=lS g1
  have hc:iLt i (lenA es)=false:=xR e_iLt e_lenA (by omega)
  rw [Pat.depL] at gt
  have ha1:iAdd .i64 dd 1=((R+1:Nat):Int):=by rw [uh e_iAdd (by omega) (by omega)];omega
  have fz:=hc
  refine Cq ?_
  refine Aq ?_
  refine zk ?_
  refine Aq ?_
  exact fI (h:=ha1)
 | cons q r =>
  have L1:=lS g1
  have hc:iLt i (lenA es)=true:=xU e_iLt e_lenA (by omega)
  have hat:=yX e_atA hes g1 gi
  have hq:=hih q (by rw [g1];simp)
  have hqc:=Pat.closed q
  have hqd:=hde q
  rw [g1,Pat.cntL_append,Pat.cntL] at hcnt
  obtain ⟨qO,qA,qT,qV,qS,qN,qCo,qCa,qCv,qCf,qCk,qXk,qXn,qXt,hx⟩:=Pat.form q
  rw [hx] at hq hat hqc
  rw [Pat.depL] at gt
  generalize hqn:(q.dep:Int)=qn at hq
  have hd2:iMax dd qn=((max dd.toNat q.dep:Nat):Int):=by simp only [ee];split<;>omega
  have hd3:(iMax dd qn).toNat=max dd.toNat q.dep:=by omega
  have hi2:iAdd .i64 i 1=((d++[q]).length:Int):=by rw [List.length_append];exact yh e_iAdd gi (by omega)
  have fz:=And.intro hc hat
  refine Cq ?_
  refine Cr ?_
  refine oPA hq ?_
  refine Aq ?_
  refine zm (d++[q],r,iAdd .i64 i 1,iMax dd qn) ⟨by simp [g1],hi2,by show iMax dd qn≤1048576;omega,by show 0≤iMax dd qn;omega,hd3 ▸ gt⟩ (by simp) (eS [.to 0] [some 0])
def sX (k:Int) (v:Vl):Bool:=decide (v.kind=0∨k=0∨k=4∨k=5)
theorem P_ref07_Suits (k:Int) (v:Vl):PCall EE 185 [int k,v.enc] (bool (sX k v)):=by
 obtain ⟨R,hR⟩:∃ R,R=sX k v:=⟨_,rfl⟩
 rw [← hR]
 unfold sX at hR
 obtain ⟨xk,xn,xt⟩:=v
 dsimp only at hR
 show PCall EE _ [int k,.agg [int xk,int xn,str xt]] _
 refine zo ?_;unhygienic intros
 refine fB T185 [.t 4] ?_
 refine Aq ?_
 exact fBo (h:=by rw [hR,Bool.eq_iff_iff];simp only [ee];simp [or_assoc])
theorem P_ref01_Check (v:Vl):PCall EE 184 [v.enc] (int v.chk):=by
 obtain ⟨R,hR⟩:∃ R,R=v.chk:=⟨_,rfl⟩
 rw [← hR]
 have h0:v.text=⟨#[]⟩↔v.text.toList=[]:=by
  constructor
  · intro h;rw [h];simp
  intro h;exact sN (by rw [h];simp)
 have hz:v.text.toList=[]→(v.text.size:Int)=0:=fun h=>by rw [h0.2 h];rfl
 unfold Vl.chk Vl.sizeE at hR
 obtain ⟨xk,xn,xt⟩:=v
 dsimp only at hR h0 hz
 simp only [ne_eq,h0] at hR
 show PCall EE _ [.agg [int xk,int xn,str xt]] _
 refine zo ?_;unhygienic intros
 have hsn:∀ s:ByteArray,(s.toList == (ByteArray.mk #[]).toList)=decide (s.toList=[]):=by
  intro s
  have hn:(ByteArray.mk #[]).toList=[]:=by simp
  rw [hn]
  cases s.toList<;>rfl
 refine fB T184 [.t 2] ?_
 refine goA 0 ?_
 refine oC (fun c1=>?_) fun c1=>?_
 ·
  simp [ee] at c1
  refine Aq ?_
  exact fI (h:=by rw [hR];simp only [ee,hsn] at *;clear ee hX;grind)
 simp [ee] at c1
 refine goA 0 ?_
 refine oC (fun c2=>?_) fun c2=>?_
 ·
  simp [ee] at c2
  refine goA 0 ?_
  refine oC (fun c3=>?_) fun c3=>?_
  ·
   simp [ee] at c3
   refine Aq ?_
   exact fI (h:=by rw [hR];simp only [ee,hsn] at *;clear ee hX;grind)
  simp [ee] at c3
  refine goA 0 ?_
  refine oC (fun c4=>?_) fun c4=>?_
  ·
   simp [ee] at c4
   refine Aq ?_
   exact fI (h:=by rw [hR];simp only [ee,hsn] at *;clear ee hX;grind)
  simp [ee] at c4
  refine Aq ?_
  exact fI (h:=by rw [hR];simp only [ee,hsn] at *;clear ee hX;grind)
 simp [ee] at c2
 refine goA 0 ?_
 refine oC (fun c5=>?_) fun c5=>?_
 ·
  simp [ee] at c5
  refine Aq ?_
  exact fI (h:=by rw [hR];simp only [ee,hsn] at *;clear ee hX;grind)
 simp [ee] at c5
 refine goA 0 ?_
 refine nsB hX (by conv=>lhs;cbv) ?_
 refine goA 0 ?_
 refine oC (fun c6=>?_) fun c6=>?_
 ·
  simp [ee] at c6
  refine Aq ?_
  exact fI (h:=by rw [hR];simp only [ee,hsn] at *;clear ee hX;grind)
 simp [ee] at c6
 refine Aq ?_
 exact fI (h:=by rw [hR];simp only [ee,hsn] at *;clear ee hX;grind)
theorem P_ref08_uses (o:Int):PCall EE 183 [int o] (.tup [bool (tX o),bool (tW o)]):=by
 obtain ⟨R,hR⟩:∃ R,R=tX o:=⟨_,rfl⟩
 obtain ⟨R2,hR2⟩:∃ R,R=tW o:=⟨_,rfl⟩
 rw [← hR,← hR2]
 unfold tX at hR
 unfold tW at hR2
 refine zo ?_;unhygienic intros
 refine fB T183 [.t 2,.t 3] ?_
 refine Aq ?_
 refine zP rfl rfl ?_
 exact Fz.none (.tup' ⟨.of (congrArg bool (by rw [hR,Bool.eq_iff_iff];simp only [ee];simp;omega)),.of (congrArg bool (by rw [hR2,Bool.eq_iff_iff];simp only [ee];simp)),trivial⟩)
def ud (o:Int):Int:=if o<0∨12<o then -1 else if o<5 then 0 else if o=12 then 1 else 2
theorem P_ref08_arity (o:Int):PCall EE 182 [int o] (int (ud o)):=by
 obtain ⟨R,hR⟩:∃ R,R=ud o:=⟨_,rfl⟩
 rw [← hR]
 unfold ud at hR
 refine zo ?_;unhygienic intros
 refine fB T182 [.t 2] ?_
 repeat' first
  | (refine on_cond rfl (fun c=>?_) (fun c=>?_)<;>(try simp [ee] at c))
  | (refine zP rfl rfl (.val ?_);exact congrArg (Value.int .i64) (by rw [hR];(repeat' split)<;>first | rfl | omega))
  | refine go rfl hX 0 (by conv=>lhs;cbv) (by exact trivial) ?_
theorem P_ref08_node (e:Ex) (hlen:e.args.length<1048576):PCall EE 170 [e.enc] (int e.nodeE):=by
 have hu:=P_ref08_uses e.op
 have har:=P_ref08_arity e.op
 have hk:=P_ref01_Check e.val
 have hsu:=P_ref07_Suits e.kind e.val
 have h0:=@Vl.eq0 e.val
 have hcl:=Ex.closed e
 obtain ⟨R,hR⟩:∃ R,R=e.nodeE:=⟨_,rfl⟩
 rw [← hR]
 have hss:1≤e.kind→tc e.kind e.val=sX e.kind e.val:=fun h=>by
  unfold tc sX;rw [Bool.eq_iff_iff];simp;omega
 have hab:uD e.op=decide (0≤ud e.op):=by
  unfold uD ud;rw [Bool.eq_iff_iff];simp;(repeat' split)<;>omega
 have han:0≤ud e.op→tz e.op=ud e.op:=fun h=>by
  unfold ud at h;unfold tz ud;(repeat' split)<;>simp_all
 have hvl:e.val.enc=.agg [int e.val.kind,int e.val.num,str e.val.text]:=rfl
 rw [hvl] at hk hsu
 unfold Ex.nodeE Ex.formB Ex.consE at hR
 generalize tX e.op=uv at *
 generalize tW e.op=uf at *
 generalize tz e.op=an at *
 generalize uD e.op=ab at *
 generalize ud e.op=ar at *
 generalize tc e.kind e.val=sf at *
 generalize sX e.kind e.val=sr at *
 generalize e.val.chk=ck at *
 obtain ⟨o,a,v,f,k,⟨xk,xn,xt⟩⟩:=e
 simp only [Ex.op,Ex.kind,Ex.val,Ex.args,Ex.var,Ex.fld] at *
 rw [Ex.enc_mk] at hcl ⊢
 dsimp only at *
 refine zo ?_;unhygienic intros
 generalize hes:zy Ex.enc a=es at *
 have hel:es.length=a.length:=by rw [← hes,zp]
 refine fB T170 [.t 2] ?_
 refine Aq ?_
 refine oPA har ?_
 refine goA 0 ?_
 refine oC (fun c1=>?_) fun c1=>?_
 ·
  simp [ee] at c1
  refine Aq ?_
  exact fG
 simp [ee] at c1
 refine goA 0 ?_
 refine oC (fun c2=>?_) fun c2=>?_
 ·
  simp [ee] at c2
  refine Aq ?_
  exact fG
 simp [ee] at c2
 refine Aq ?_
 refine oPA hu ?_
 refine goA 0 ?_
 refine nsB hX (by conv=>lhs;cbv) ?_
 refine goA 0 ?_
 refine nsB hX (by conv=>lhs;cbv) ?_
 refine goA 0 ?_
 refine oC (fun c3=>?_) fun c3=>?_
 ·
  simp [ee] at c3
  refine Aq ?_
  exact fG
 simp [ee] at c3
 refine goA 0 ?_
 refine nsB hX (by conv=>lhs;cbv) ?_
 refine goA 0 ?_
 refine oC (fun c4=>?_) fun c4=>?_
 ·
  simp [ee] at c4
  refine Aq ?_
  exact fG
 simp [ee] at c4
 refine goA 0 ?_
 refine oC (fun c5=>?_) fun c5=>?_
 ·
  simp [ee] at c5
  refine Aq ?_
  refine oPA hk ?_
  refine goA 0 ?_
  refine oC (fun c6=>?_) fun c6=>?_
  ·
   simp [ee] at c6
   refine Aq ?_
   exact fG
  simp [ee] at c6
  refine goA 0 ?_
  refine zG rfl rfl (fun c7=>?_) (fun c7=>?_)
  ·
   simp [ee] at c7
   refine Aq ?_
   refine oPG hsu ?_
   refine goA 0 ?_
   refine goA 1 ?_
   refine goA 1 ?_
   refine nsB hX (by conv=>lhs;cbv) ?_
   refine goA 0 ?_
   refine oC (fun c8=>?_) fun c8=>?_
   ·
    simp [ee] at c8
    refine Aq ?_
    exact fG
   simp [ee] at c8
   refine goA 0 ?_
   refine nsB hX (by conv=>lhs;cbv) ?_
   refine goA 0 ?_
   refine nsB hX (by conv=>lhs;cbv) ?_
   refine goA 0 ?_
   refine nsB hX (by conv=>lhs;cbv) ?_
   refine goA 0 ?_
   refine oC (fun c9=>?_) fun c9=>?_
   ·
    simp [ee] at c9
    refine Aq ?_
    exact fG
   simp [ee] at c9
   refine Aq ?_
   exact fG
  simp [ee] at c7
  refine Aq ?_
  refine zZ rfl rfl ?_
  refine goA 0 ?_
  refine goA 1 ?_
  refine nsB hX (by conv=>lhs;cbv) ?_
  refine goA 0 ?_
  refine nsB hX (by conv=>lhs;cbv) ?_
  refine goA 0 ?_
  refine nsB hX (by conv=>lhs;cbv) ?_
  refine goA 0 ?_
  refine oC (fun c10=>?_) fun c10=>?_
  ·
   simp [ee] at c10
   refine Aq ?_
   exact fG
  simp [ee] at c10
  refine Aq ?_
  exact fG
 simp [ee] at c5
 refine goA 0 ?_
 refine zG rfl rfl (fun c11=>?_) (fun c11=>?_)
 ·
  simp [ee] at c11
  refine Aq ?_
  refine oPG hsu ?_
  refine goA 0 ?_
  refine goA 1 ?_
  refine goA 1 ?_
  refine nsB hX (by conv=>lhs;cbv) ?_
  refine goA 0 ?_
  refine oC (fun c12=>?_) fun c12=>?_
  ·
   simp [ee] at c12
   refine Aq ?_
   exact fG
  simp [ee] at c12
  refine goA 0 ?_
  refine nsB hX (by conv=>lhs;cbv) ?_
  refine goA 0 ?_
  refine nsB hX (by conv=>lhs;cbv) ?_
  refine goA 0 ?_
  refine nsB hX (by conv=>lhs;cbv) ?_
  refine goA 0 ?_
  refine oC (fun c13=>?_) fun c13=>?_
  ·
   simp [ee] at c13
   refine Aq ?_
   exact fG
  simp [ee] at c13
  refine Aq ?_
  exact fG
 simp [ee] at c11
 refine Aq ?_
 refine zZ rfl rfl ?_
 refine goA 0 ?_
 refine goA 1 ?_
 refine nsB hX (by conv=>lhs;cbv) ?_
 refine goA 0 ?_
 refine nsB hX (by conv=>lhs;cbv) ?_
 refine goA 0 ?_
 refine nsB hX (by conv=>lhs;cbv) ?_
 refine goA 0 ?_
 refine oC (fun c14=>?_) fun c14=>?_
 ·
  simp [ee] at c14
  refine Aq ?_
  exact fG
 simp [ee] at c14
 refine Aq ?_
 exact fG
theorem P_ref08_nodes : ∀ e:Ex,e.Sm→PCall EE 145 [e.enc] (int (zU Ex.nodeE e.nodes)):=by
 refine Ex.ind ?_
 intro o a v f k x ih hs
 have hlen:=hs.len
 have hih:∀ q∈a,PCall EE 145 [q.enc] (int (zU Ex.nodeE q.nodes)):=fun q hq=>ih q hq (hs.arg hq)
 have hcl:=Ex.closedI a
 have hh:=P_ref08_node (.mk o a v f k x) (by exact hlen)
 have hpc:=Ex.closed (.mk o a v f k x)
 rw [Ex.nodes]
 obtain ⟨R,hR⟩:∃ R,R=zU Ex.nodeE (Ex.mk o a v f k x :: Ex.nodesL a):=⟨_,rfl⟩
 rw [← hR]
 rw [zU] at hR
 obtain ⟨xk,xn,xt⟩:=x
 rw [Ex.enc_mk] at hpc hh ⊢
 dsimp only at hpc hh ⊢
 clear ih hs
 refine zo ?_;unhygienic intros
 generalize hes:zy Ex.enc a=es at *
 have hel:es.length=a.length:=by rw [← hes,zp]
 generalize (Ex.mk o a v f k { kind:=xk,num:=xn,text:=xt }).nodeE=fp at *
 refine fB T145 [.t 2] ?_
 by_cases h1:fp=0
 rotate_left
 · have w1:iNe fp 0=true:=by simp only [ee];simpa using h1
   have hR:R=fp:=by rw [hR,if_pos h1]
   refine Aq ?_
   refine oPA hh ?_
   have fz:=w1
   refine Cq ?_
   refine Aq ?_
   exact fI (h:=hR.symm)
 have w1:iNe fp 0=false:=by simp only [ee];simpa using h1
 have hR:R=zU Ex.nodeE (Ex.nodesL a):=by rw [hR,if_neg (by simpa using h1)]
 refine Aq ?_
 refine oPA hh ?_
 have fz:=w1
 refine Cq ?_
 refine Aq ?_
 refine ze (ι:=List Ex × List Ex × Int) (fun p=>([(4,int p.2.2),(1,.ptr 0 0)],[.cells [int o,.isl 8 es,int v,int f,int k,int xk,int xn,str xt]])) (fun p=>a=p.1++p.2.1∧p.2.2=p.1.length∧R=zU Ex.nodeE (Ex.nodesL p.2.1)) (fun p=>p.2.1.length) ([],a,0) ⟨rfl,rfl,hR⟩ ?_ ?_
 · exact (eS [.to 0] [some 0])
 rintro ⟨d,r,i⟩ ⟨g1,gi,gR⟩
 dsimp only at g1 gi gR ⊢
 cases r with
 | nil =>
  have L1:=lS g1
  have hc:iLt i (lenA es)=false:=xR e_iLt e_lenA (by omega)
  have gR:R=0:=gR
  have fz:=hc
  refine Cq ?_
  refine Aq ?_
  refine zk ?_
  refine Aq ?_
  exact fI (h:=gR.symm)
 | cons q r =>
  have L1:=lS g1
  have hc:iLt i (lenA es)=true:=xU e_iLt e_lenA (by omega)
  have hat:=yX e_atA hes g1 gi
  have hq:=hih q (by rw [g1];simp)
  have hqc:=Ex.closed q
  rw [Ex.nodesL,firstE_append] at gR
  obtain ⟨qO,qA,qV,qF,qK,qXk,qXn,qXt,hx⟩:=Ex.form q
  rw [hx] at hat hqc hq
  have hi2:iAdd .i64 i 1=((d++[q]).length:Int):=by rw [List.length_append];exact yh e_iAdd gi (by omega)
  generalize zU Ex.nodeE q.nodes=fq at *
  by_cases h2:fq=0
  · have w2:iNe fq 0=false:=by simp only [ee];simpa using h2
    rw [if_neg (by simpa using h2)] at gR
    have fz:=And.intro hc (And.intro hat w2)
    refine Cq ?_
    refine Cr ?_
    refine oPA hq ?_
    refine Cq ?_
    refine Aq ?_
    refine zm (d++[q],r,iAdd .i64 i 1) ⟨by simp [g1],hi2,gR⟩ (by simp) (eS [.to 0] [some 0])
  have w2:iNe fq 0=true:=by simp only [ee];simpa using h2
  rw [if_pos h2] at gR
  have fz:=And.intro hc (And.intro hat w2)
  refine Cq ?_
  refine Cr ?_
  refine oPA hq ?_
  refine Cq ?_
  refine Aq ?_
  refine zf ?_
  refine Aq ?_
  exact fI (h:=gR.symm)
theorem P_ref08_Check (e:Ex) (hs:e.Sm):PCall EE 109 [e.enc] (int e.chk):=by
 have h1:=P_ref08_Count 64 (by decide) e hs
 have h2:=P_ref08_Depth e hs
 have h3:=P_ref08_nodes e hs
 have htot:=Ex.tot_iff e 64
 have hcl:=Ex.closed e
 obtain ⟨R,hR⟩:∃ R,R=e.chk:=⟨_,rfl⟩
 rw [← hR]
 unfold Ex.chk at hR
 obtain ⟨tt,htt⟩:∃ z:Int,z=e.tot 64:=⟨_,rfl⟩
 obtain ⟨dp,hdp⟩:∃ z:Int,z=e.dep:=⟨_,rfl⟩
 rw [← htt] at h1
 rw [← hdp] at h2
 generalize zU Ex.nodeE e.nodes=fe at *
 obtain ⟨eO,eA,eV,eF,eK,eXk,eXn,eXt,hx⟩:=Ex.form e
 rw [hx] at h1 h2 h3 hcl ⊢
 refine zo ?_;unhygienic intros
 refine fB T109 [.t 2] ?_
 by_cases g1:tt≤64
 rotate_left
 · have k1:iLt 64 tt=true:=by simp only [ee];simp;omega
   rw [if_pos (by omega)] at hR
   refine Aq ?_
   refine oPA h1 ?_
   have fz:=k1
   refine Cq ?_
   refine Aq ?_
   exact fI (h:=hR.symm)
 have k1:iLt 64 tt=false:=by simp only [ee];simp;omega
 rw [if_neg (by omega)] at hR
 by_cases g2:dp≤12
 rotate_left
 · have k2:iLt 12 dp=true:=by simp only [ee];simp;omega
   rw [if_pos (by omega)] at hR
   refine Aq ?_
   refine oPA h1 ?_
   have fz:=And.intro k1 k2
   refine Cq ?_
   refine Aq ?_
   refine oPA h2 ?_
   refine Cq ?_
   refine Aq ?_
   exact fI (h:=hR.symm)
 have k2:iLt 12 dp=false:=by simp only [ee];simp;omega
 rw [if_neg (by omega)] at hR
 refine Aq ?_
 refine oPA h1 ?_
 have fz:=And.intro k1 k2
 refine Cq ?_
 refine Aq ?_
 refine oPA h2 ?_
 refine Cq ?_
 refine Aq ?_
 refine oPA h3 ?_
 refine Aq ?_
 exact fI (h:=hR.symm)
theorem P_ref08_Same : ∀ x y:Ex,x.Sm→PCall EE 47 [x.enc,y.enc] (bool (eqB x y)):=by
 refine Ex.ind ?_
 intro o a v f k x ih y hs
 obtain ⟨o2,a2,v2,f2,k2,x2⟩:=y
 obtain ⟨xk,xn,xt⟩:=x
 obtain ⟨yk,yn,yt⟩:=x2
 have hlen:=hs.len
 have hih:∀ q∈a,∀ q2,PCall EE 47 [q.enc,q2.enc] (bool (eqB q q2)):=fun q hq q2=>ih q hq q2 (hs.arg hq)
 have hcl:=Ex.closedI a
 have hcl2:=Ex.closedI a2
 obtain ⟨R,hR⟩:∃ R,R=eqB (Ex.mk o a v f k ⟨xk,xn,xt⟩) (Ex.mk o2 a2 v2 f2 k2 ⟨yk,yn,yt⟩):=⟨_,rfl⟩
 rw [← hR,Ex.enc_mk,Ex.enc_mk]
 clear ih hs
 refine zo ?_;unhygienic intros
 generalize hes:zy Ex.enc a=es at *
 generalize hes2:zy Ex.enc a2=es2 at *
 have hel:es.length=a.length:=by rw [← hes,zp]
 have hel2:es2.length=a2.length:=by rw [← hes2,zp]
 refine fB T47 [.t 4] ?_
 refine goA 0 ?_
 refine oC (fun c1=>?_) fun c1=>?_
 · simp [ee] at c1
   have hR:R=false:=by
    rw [hR];refine xl fun h=>?_
    simp only [Ex.mk.injEq,Vl.mk.injEq] at h
    obtain ⟨rfl,rfl,rfl,rfl,rfl,rfl,rfl,rfl⟩:=h
    simp [hel,hel2] at c1
   refine Aq ?_
   exact fBo (h:=hR.symm)
 simp [ee] at c1
 obtain ⟨⟨⟨⟨⟨h1,h2⟩,h3⟩,h4⟩,⟨h5,h6,h7⟩⟩,h8⟩:=c1
 have h7:=sN h7
 subst h1 h2 h3 h4 h5 h6 h7
 have hl8:a.length=a2.length:=by omega
 have hR:R=eqB a a2:=by
  rw [hR]
  by_cases h:a=a2
  · rw [h,xF rfl,xF rfl]
  rw [xl h,xl (by simp [h])]
 refine Aq ?_
 refine ze (ι:=List Ex × List Ex × List Ex × List Ex × Int) (fun p=>([(5,int p.2.2.2.2),(2,.ptr 0 0),(3,.ptr 1 0)],[.cells [int o,.isl 8 es,int v,int f,int k,int xk,int xn,str xt],.cells [int o,.isl 8 es2,int v,int f,int k,int xk,int xn,str xt]])) (fun p=>a=p.1++p.2.1∧a2=p.2.2.1++p.2.2.2.1∧p.2.2.2.2=p.1.length∧p.1=p.2.2.1) (fun p=>p.2.1.length) ([],a,[],a2,0) ⟨rfl,rfl,rfl,rfl⟩ ?_ ?_
 · exact (eS [.to 0,.to 1] [some 0,some 1])
 rintro ⟨d,r,d2,r2,i⟩ ⟨g1,g2,gi,gd⟩
 dsimp only at g1 g2 gi gd ⊢
 subst gd
 cases r with
 | nil =>
  have L1:=lS g1
  have hc:iLt i (lenA es)=false:=xR e_iLt e_lenA (by omega)
  have L2:=lS g2
  have hr2:r2=[]:=List.length_eq_zero_iff.1 (by omega)
  have hR:R=true:=by rw [hR];exact xF (by rw [g1,g2,hr2])
  have fz:=hc
  refine Cq ?_
  refine Aq ?_
  refine zk ?_
  refine Aq ?_
  exact fBo (h:=hR.symm)
 | cons q r =>
  have L1:=lS g1
  have hc:iLt i (lenA es)=true:=xU e_iLt e_lenA (by omega)
  have hat:=yX e_atA hes g1 gi
  have L2:=lS g2
  cases r2 with
  | nil=>exfalso;simp at L2;omega
  | cons q2 r2 =>
   have hat2:=yX e_atA hes2 g2 gi
   have hq:=hih q (by rw [g1];simp) q2
   have hqc:=Ex.closed q
   have hqc2:=Ex.closed q2
   obtain ⟨qO,qA,qV,qF,qK,qXk,qXn,qXt,hx⟩:=Ex.form q
   obtain ⟨q2O,q2A,q2V,q2F,q2K,q2Xk,q2Xn,q2Xt,hx2⟩:=Ex.form q2
   rw [hx,hx2] at hq
   rw [hx] at hat hqc
   rw [hx2] at hat2 hqc2
   have hi2:iAdd .i64 i 1=((d++[q]).length:Int):=by rw [List.length_append];exact yh e_iAdd gi (by omega)
   by_cases hqq:q=q2
   · rw [xF hqq] at hq
     have hn:bNot true=false:=by simp [ee]
     have fz:=And.intro hc (And.intro hat (And.intro hat2 hn))
     refine Cq ?_
     refine Cr ?_
     refine zX rfl (by conv=>lhs;cbv) rfl ?_
     refine tgC ?_
     refine oPT hq ?_
     refine tgA ?_
     refine zK ⟨rfl,?_,?_⟩
     · simp only [zJ,zd,List.cons_append,List.nil_append,List.append_nil];and_intros<;>first | trivial | (intro hp;first | rfl | exact absurd (show false=true from hp) Bool.false_ne_true)
     refine Cq ?_
     refine Aq ?_
     refine zm (d++[q],r,d++[q2],r2,iAdd .i64 i 1) ⟨by simp [g1],by simp [g2],hi2,by simp [hqq]⟩ (by simp) (eS [.to 0,.to 1] [some 0,some 1])
   rw [xl hqq] at hq
   have hn:bNot false=true:=by simp [ee]
   have hR:R=false:=by rw [hR];exact xl (by rw [g1,g2];simp [hqq])
   have fz:=And.intro hc (And.intro hat (And.intro hat2 hn))
   refine Cq ?_
   refine Cr ?_
   refine zX rfl (by conv=>lhs;cbv) rfl ?_
   refine tgC ?_
   refine oPT hq ?_
   refine tgA ?_
   refine zK ⟨rfl,?_,?_⟩
   · simp only [zJ,zd,List.cons_append,List.nil_append,List.append_nil];and_intros<;>first | trivial | (intro hp;first | rfl | exact absurd (show false=true from hp) Bool.false_ne_true)
   refine Cq ?_
   refine Aq ?_
   refine zf ?_
   refine Aq ?_
   exact fBo (h:=hR.symm)
theorem P_Negates (p:Pat):PCall EE 93 [p.enc] (bool (decide (p.op=5∨p.op=9))):=by
 obtain ⟨R,hR⟩:∃ R,R=decide (p.op=5∨p.op=9):=⟨_,rfl⟩
 rw [← hR]
 have hcl:=Pat.closed p
 obtain ⟨pO,pA,pT,pV,pS,pN,pCo,pCa,pCv,pCf,pCk,pXk,pXn,pXt,hx,hxc,hpO,hpA,hpT,hpV,hpS,hpN⟩:=Pat.form2 p
 rw [hx] at hcl ⊢
 rw [← hpO] at hR
 refine zo ?_;unhygienic intros
 refine fB T93 [.t 2] ?_
 refine Aq ?_
 exact fBo (h:=by rw [hR,Bool.eq_iff_iff];simp only [ee];simp)
theorem P_Times (p:Pat):PCall EE 94 [p.enc] (bool (xa p.op)):=by
 obtain ⟨R,hR⟩:∃ R,R=xa p.op:=⟨_,rfl⟩
 rw [← hR]
 unfold xa at hR
 have hcl:=Pat.closed p
 obtain ⟨pO,pA,pT,pV,pS,pN,pCo,pCa,pCv,pCf,pCk,pXk,pXn,pXt,hx,hxc,hpO,hpA,hpT,hpV,hpS,hpN⟩:=Pat.form2 p
 rw [hx] at hcl ⊢
 rw [← hpO] at hR
 refine zo ?_;unhygienic intros
 refine fB T94 [.t 2] ?_
 refine Aq ?_
 exact fBo (h:=by rw [hR,Bool.eq_iff_iff];simp only [ee];simp)
theorem P_variable (p:Pat):PCall EE 92 [p.enc] (bool (yg p.op)):=by
 have h1:=P_Negates p
 obtain ⟨R,hR⟩:∃ R,R=yg p.op:=⟨_,rfl⟩
 rw [← hR]
 unfold yg at hR
 have hcl:=Pat.closed p
 obtain ⟨pO,pA,pT,pV,pS,pN,pCo,pCa,pCv,pCf,pCk,pXk,pXn,pXt,hx,hxc,hpO,hpA,hpT,hpV,hpS,hpN⟩:=Pat.form2 p
 rw [hx] at h1 hcl ⊢
 rw [← hpO] at hR h1
 refine zo ?_;unhygienic intros
 refine fB T92 [.t 2] ?_
 refine goA 0 ?_
 refine zG rfl rfl (fun c1=>?_) (fun c1=>?_)
 ·
  simp [ee] at c1
  refine Aq ?_
  exact fBo (h:=by rw [hR];clear ee hX;grind)
 simp [ee] at c1
 refine Aq ?_
 refine oPG h1 ?_
 refine Aq ?_
 exact fBo (h:=by rw [hR];clear ee hX;grind)
theorem P_condition (p:Pat):PCall EE 154 [p.enc] (bool (wl p.op)):=by
 have h1:=P_variable p
 obtain ⟨R,hR⟩:∃ R,R=wl p.op:=⟨_,rfl⟩
 rw [← hR]
 have h2:wl p.op=(yg p.op || decide (p.op=7)):=by unfold wl yg;rw [Bool.eq_iff_iff];simp;omega
 rw [h2] at hR
 generalize yg p.op=ty at *
 have hcl:=Pat.closed p
 obtain ⟨pO,pA,pT,pV,pS,pN,pCo,pCa,pCv,pCf,pCk,pXk,pXn,pXt,hx,hxc,hpO,hpA,hpT,hpV,hpS,hpN⟩:=Pat.form2 p
 rw [hx] at h1 hcl ⊢
 rw [← hpO] at hR
 refine zo ?_;unhygienic intros
 refine fB T154 [.t 2] ?_
 refine Aq ?_
 refine oPA h1 ?_
 refine Aq ?_
 exact fBo (h:=by rw [hR];first | (rw [Bool.eq_iff_iff];simp only [ee];simp;done) | (simp only [ee] at *;simp at *;simp [*]))
theorem re (u:Bool) (n m:Int):PCall EE 155 [bool u,int n,int m] (bool (u && decide (n<0∨m<n))):=by
 obtain ⟨R,hR⟩:∃ R,R=(u && decide (n<0∨m<n)):=⟨_,rfl⟩
 rw [← hR]
 refine zo ?_;unhygienic intros
 refine fB T155 [.t 6] ?_
 refine goA 0 ?_
 refine nsB hX (by conv=>lhs;cbv) ?_
 refine Aq ?_
 exact fBo (h:=by rw [hR];first | (rw [Bool.eq_iff_iff];simp only [ee];simp;done) | (simp only [ee] at *;simp at *;simp [*]))
theorem P_ref09_arity (p:Pat) (_hlen:p.args.length<1048576):PCall EE 153 [p.enc] (bool (decide (if p.op=0 then p.args.length=0 else if p.op=1∨p.op=2∨p.op=3 then 2≤p.args.length else if p.op=8 then p.args.length=2 else p.args.length=1))):=by
 obtain ⟨R,hR⟩:∃ R,R=(decide (if p.op=0 then p.args.length=0 else if p.op=1∨p.op=2∨p.op=3 then 2≤p.args.length else if p.op=8 then p.args.length=2 else p.args.length=1)):=⟨_,rfl⟩
 rw [← hR]
 have hcl:=Pat.closed p
 obtain ⟨pO,pA,pT,pV,pS,pN,pCo,pCa,pCv,pCf,pCk,pXk,pXn,pXt,hx,hxc,hpO,hpA,hpT,hpV,hpS,hpN⟩:=Pat.form2 p
 have hel:pA.length=p.args.length:=by rw [hpA,zp]
 rw [hx] at hcl ⊢
 rw [← hpO] at hR
 clear hpA
 generalize p.args.length=n at *
 refine zo ?_;unhygienic intros
 refine fB T153 [.t 2] ?_
 refine goA 0 ?_
 refine oC (fun c1=>?_) fun c1=>?_
 ·
  simp [ee] at c1
  refine Aq ?_
  exact fBo (h:=by rw [hR,Bool.eq_iff_iff];simp only [ee];clear ee hX;simp;grind)
 simp [ee] at c1
 refine goA 0 ?_
 refine oC (fun c2=>?_) fun c2=>?_
 ·
  simp [ee] at c2
  refine goA 0 ?_
  refine oC (fun c3=>?_) fun c3=>?_
  ·
   simp [ee] at c3
   refine Aq ?_
   exact fBo (h:=by rw [hR,Bool.eq_iff_iff];simp only [ee];clear ee hX;simp;grind)
  simp [ee] at c3
  refine goA 0 ?_
  refine oC (fun c4=>?_) fun c4=>?_
  ·
   simp [ee] at c4
   refine Aq ?_
   exact fBo (h:=by rw [hR,Bool.eq_iff_iff];simp only [ee];clear ee hX;simp;grind)
  simp [ee] at c4
  refine Aq ?_
  exact fBo (h:=by rw [hR,Bool.eq_iff_iff];simp only [ee];clear ee hX;simp;grind)
 simp [ee] at c2
 refine goA 0 ?_
 refine oC (fun c5=>?_) fun c5=>?_
 ·
  simp [ee] at c5
  refine goA 0 ?_
  refine oC (fun c6=>?_) fun c6=>?_
  ·
   simp [ee] at c6
   refine Aq ?_
   exact fBo (h:=by rw [hR,Bool.eq_iff_iff];simp only [ee];clear ee hX;simp;grind)
  simp [ee] at c6
  refine goA 0 ?_
  refine oC (fun c7=>?_) fun c7=>?_
  ·
   simp [ee] at c7
   refine Aq ?_
   exact fBo (h:=by rw [hR,Bool.eq_iff_iff];simp only [ee];clear ee hX;simp;grind)
  simp [ee] at c7
  refine Aq ?_
  exact fBo (h:=by rw [hR,Bool.eq_iff_iff];simp only [ee];clear ee hX;simp;grind)
 simp [ee] at c5
 refine goA 0 ?_
 refine oC (fun c8=>?_) fun c8=>?_
 ·
  simp [ee] at c8
  refine Aq ?_
  exact fBo (h:=by rw [hR,Bool.eq_iff_iff];simp only [ee];clear ee hX;simp;grind)
 simp [ee] at c8
 refine goA 0 ?_
 refine oC (fun c9=>?_) fun c9=>?_
 ·
  simp [ee] at c9
  refine Aq ?_
  exact fBo (h:=by rw [hR,Bool.eq_iff_iff];simp only [ee];clear ee hX;simp;grind)
 simp [ee] at c9
 refine Aq ?_
 exact fBo (h:=by rw [hR,Bool.eq_iff_iff];simp only [ee];clear ee hX;simp;grind)
mutual
def Pat.tot (lim:Nat):Pat→Nat
 | .mk _ a _ _ _ _ _=>Pat.totL lim 1 a
def Pat.totL (lim:Nat):Nat→List Pat→Nat
 | n,[]=>n
 | n,e :: r=>if n≤lim then Pat.totL lim (n+e.tot lim) r else n
end
theorem Pat.totL_le {lim:Nat} {l:List Pat} (h:∀ e∈l,e.tot lim≤e.cnt):∀ n,Pat.totL lim n l≤n+Pat.cntL l:=by
 induction l with
 | nil=>intro n;simp [Pat.totL]
 | cons e r ih =>
  intro n
  have h1:=h e (by simp)
  have h2:=ih (fun e he=>h e (by simp [he])) (n+e.tot lim)
  simp only [Pat.totL,Pat.cntL];split<;>omega
theorem Pat.tot_le (lim:Nat):∀ e:Pat,e.tot lim≤e.cnt:=Pat.ind fun o a t v s n c h=>by
 have:=Pat.totL_le h 1
 simp only [Pat.tot,Pat.cnt];omega
theorem Pat.totL_eq {lim:Nat} {l:List Pat} (h:∀ e∈l,e.cnt≤lim→e.tot lim=e.cnt):∀ n,n+Pat.cntL l≤lim→Pat.totL lim n l=n+Pat.cntL l:=by
 induction l with
 | nil=>intro n _;simp [Pat.totL,Pat.cntL]
 | cons e r ih =>
  intro n hn
  simp only [Pat.cntL] at hn ⊢
  have h1:=h e (by simp) (by omega)
  rw [Pat.totL,if_pos (by omega),ih (fun e he=>h e (by simp [he])) _ (by omega)];omega
theorem Pat.tot_eq {lim:Nat}:∀ e:Pat,e.cnt≤lim→e.tot lim=e.cnt:=Pat.ind fun o a t v s n c h hl=>by
 simp only [Pat.tot,Pat.cnt] at hl ⊢
 exact Pat.totL_eq h 1 hl
theorem Pat.totL_gt {lim:Nat} {l:List Pat} (h:∀ e∈l,lim<e.cnt→lim<e.tot lim):∀ n,lim<n+Pat.cntL l→lim<Pat.totL lim n l:=by
 induction l with
 | nil=>intro n hn;simpa [Pat.totL,Pat.cntL] using hn
 | cons e r ih =>
  intro n hn
  simp only [Pat.cntL] at hn
  rw [Pat.totL]
  split
  · refine ih (fun e he=>h e (by simp [he])) _ ?_
    by_cases hc:e.cnt≤lim
    · rw [Pat.tot_eq e hc];omega
    have:=h e (by simp) (by omega);omega
  omega
theorem Pat.tot_gt {lim:Nat}:∀ e:Pat,lim<e.cnt→lim<e.tot lim:=Pat.ind fun o a t v s n c h hl=>by
 simp only [Pat.tot,Pat.cnt] at hl ⊢
 exact Pat.totL_gt h 1 hl
theorem Pat.tot_iff (e:Pat) (lim:Nat):e.tot lim≤lim↔e.cnt≤lim:=by
 by_cases h:e.cnt≤lim
 · rw [Pat.tot_eq e h]
 have:=Pat.tot_gt (lim:=lim) e (by omega);omega
theorem P_ref09_Total (lim:Nat) (hlim:lim≤1099511627776):∀ p:Pat,p.Sm→PCall EE 37 [p.enc,int lim] (int (p.tot lim)):=by
 generalize hli:(lim:Int)=li
 refine Pat.ind ?_
 intro o a t v s n c ih hs
 obtain ⟨co,ca,cv,cf,ck,xk,xn,xt⟩:=c
 have hlen:=hs.len
 have hih:∀ q∈a,PCall EE 37 [q.enc,int li] (int (q.tot lim)):=fun q hq=>ih q hq (hs.arg hq)
 have hcl:=Pat.closedI a
 have hce:=Ex.closedI ca
 have hcnt:Pat.cntL a≤1048576:=by have hs:=hs.1;simp only [Pat.cnt] at hs;omega
 have hde:=fun q:Pat=>Pat.tot_le lim q
 simp only [Pat.tot]
 obtain ⟨R,hR⟩:∃ R,R=Pat.totL lim 1 a:=⟨_,rfl⟩
 rw [← hR,Pat.enc_mk]
 refine zo ?_;unhygienic intros
 generalize hes:zy Pat.enc a=es at *
 generalize zy Ex.enc ca=ec at *
 have hel:es.length=a.length:=by rw [← hes,zp]
 refine fB T37 [.t 4] ?_
 refine Aq ?_
 refine ze (ι:=List Pat × List Pat × Int × Int) (fun p=>([(5,int p.2.2.2),(6,int p.2.2.1),(1,int li),(2,.ptr 0 0)],[.cells [int o,.isl 14 es,int t,int v,int s,int n,int co,.isl 8 ec,int cv,int cf,int ck,int xk,int xn,str xt]])) (fun p=>a=p.1++p.2.1∧p.2.2.1=p.1.length∧p.2.2.2≤1+Pat.cntL p.1∧0≤p.2.2.2∧R=Pat.totL lim p.2.2.2.toNat p.2.1) (fun p=>p.2.1.length) ([],a,0,1) ⟨rfl,rfl,by simp [Pat.cntL],by simp,hR⟩ ?_ ?_
 · exact (eS [.to 0] [some 0])
 rintro ⟨d,r,i,nn⟩ ⟨g1,gi,gn,gp,gt⟩
 dsimp only at g1 gi gn gp gt ⊢
 have hnt:(nn.toNat:Int)=nn:=Int.toNat_of_nonneg gp
 cases r with
 | nil =>
  have L1:=lS g1
  have hc:iLt i (lenA es)=false:=xR e_iLt e_lenA (by omega)
  rw [Pat.totL] at gt
  have hv:nn=(R:Int):=by omega
  have hb:∀ b,bAnd false b=false:=by simp [ee]
  have fz:=And.intro hc hb
  refine Cq ?_
  refine Aq ?_
  refine zk ?_
  refine Aq ?_
  exact fI (h:=hv)
 | cons q r =>
  have L1:=lS g1
  have hc:iLt i (lenA es)=true:=xU e_iLt e_lenA (by omega)
  have hat:=yX e_atA hes g1 gi
  have hq:=hih q (by rw [g1];simp)
  have hqc:=Pat.closed q
  have hqd:=hde q
  rw [g1,Pat.cntL_append,Pat.cntL] at hcnt
  obtain ⟨qO,qA,qT,qV,qS,qN,qCo,qCa,qCv,qCf,qCk,qXk,qXn,qXt,hx⟩:=Pat.form q
  rw [hx] at hq hat hqc
  have hb:∀ b,bAnd true b=b:=by simp [ee]
  rw [Pat.totL] at gt
  by_cases hle:nn≤li
  · have h2:iLe nn li=true:=by simp [ee];omega
    rw [if_pos (by omega)] at gt
    generalize hqn:(q.tot lim:Int)=qn at hq
    have hn2:iAdd .i64 nn qn=nn+qn:=uh e_iAdd (by omega) (by omega)
    have hi2:iAdd .i64 i 1=((d++[q]).length:Int):=by rw [List.length_append];exact yh e_iAdd gi (by omega)
    have hn4:iAdd .i64 nn qn≤1+Pat.cntL (d++[q])∧0≤iAdd .i64 nn qn:=by rw [Pat.cntL_append,Pat.cntL,Pat.cntL,hn2];omega
    have hn3:(iAdd .i64 nn qn).toNat=nn.toNat+q.tot lim:=by omega
    have fz:=And.intro hc (And.intro hat (And.intro hb h2))
    refine Cq ?_
    refine Cr ?_
    refine oPA hq ?_
    refine Aq ?_
    refine zm (d++[q],r,iAdd .i64 i 1,iAdd .i64 nn qn) ⟨by simp [g1],hi2,hn4.1,hn4.2,hn3 ▸ gt⟩ (by simp) (eS [.to 0] [some 0])
  have h2:iLe nn li=false:=by simp [ee];omega
  rw [if_neg (by omega)] at gt
  have hv:nn=(R:Int):=by omega
  have fz:=And.intro hc (And.intro hat (And.intro hb h2))
  refine Cq ?_
  refine Aq ?_
  refine zk ?_
  refine Aq ?_
  exact fI (h:=hv)
theorem chk_zero {p:Pat} (h:p.chk=0):p.wholeE=0∧(yu p.nodes).2.2=true:=by
 unfold Pat.chk at h
 split at h
 · exact absurd h (by assumption)
 rename_i h1
 split at h
 · exact ⟨by simpa using h1,by assumption⟩
 cases h
theorem cfold_pre (a b:List Pat) (h:(yu (a++b)).2.2=true):(yu a).2.2=true:=by
 unfold yu at *
 rw [List.foldl_append] at h
 generalize a.foldl wu (0,0,true)=s at *
 induction b generalizing s with
 | nil=>exact h
 | cons q r ih =>
  have:=ih _ h
  simp only [wu,Bool.and_eq_true] at this
  exact this.1.1
theorem cnt_node : ∀ p:Pat,∀ q∈p.nodes,q.cnt≤p.cnt∧q.dep≤p.dep∧(∀ x∈q.nodes,x∈p.nodes):=by
 refine Pat.ind fun o a t v s n c ih q hq=>?_
 rw [Pat.nodes,List.mem_cons] at hq
 rcases hq with rfl | hq
 · exact ⟨Nat.le_refl _,Nat.le_refl _,fun x hx=>hx⟩
 obtain ⟨e,he,hqe⟩:=Pat.mem_nodesL hq
 obtain ⟨h1,h2,h3⟩:=ih e he q hqe
 have h4:=Pat.cnt_mem he
 have h5:e.dep≤Pat.depL 0 a:=by
  have:∀ (l:List Pat) (d:Nat),d≤Pat.depL d l∧∀ e∈l,e.dep≤Pat.depL d l:=by
   intro l
   induction l with
   | nil=>intro d;simp [Pat.depL]
   | cons x r ih =>
    intro d
    have:=ih (max d x.dep)
    rw [Pat.depL]
    refine ⟨by omega,fun e he=>?_⟩
    rcases List.mem_cons.1 he with rfl | he
    · omega
    exact this.2 e he
  exact (this a 0).2 e he
 refine ⟨by rw [Pat.cnt];omega,by rw [Pat.dep];omega,fun x hx=>?_⟩
 rw [Pat.nodes]
 refine List.mem_cons_of_mem _ ?_
 obtain ⟨l1,l2,rfl⟩:=List.append_of_mem he
 rw [Pat.nodesL_append,Pat.nodesL]
 simp [h3 x hx]
theorem chkR_zero {p:Pat}:p.chkR=0↔p.cnt≤64∧p.dep≤12∧∀ q∈p.nodes,q.nodeE=0:=by
 unfold Pat.chkR
 by_cases h1:64<p.cnt
 · rw [if_pos h1];simp;omega
 rw [if_neg h1]
 by_cases h2:12<p.dep
 · rw [if_pos h2];simp;omega
 rw [if_neg h2]
 exact ⟨fun h=>⟨by omega,by omega,firstE_zero h⟩,fun h=>vW h.2.2⟩
theorem rep_at (w:Pat):∀ (l:List (Ed × Option Pat)),(∀ y∈l,y.2=none)→∀ (j:Nat) (x:Ed) (z:Option Pat),l[j]? = some (x,z) →
 z=none∧(l.flatMap (tH w))[2 * j]? = some (x,none)∧(l.flatMap (tH w))[2 * j+1]? = some (x,some w)
 | [],_,j,x,z,h=>by simp at h
 | y :: l,hn,j,x,z,h=>by
  have hy:y.2=none:=hn y (by simp)
  have hr:tH w y=[(y.1,none),(y.1,some w)]:=by simp only [tH,hy]
  rw [List.flatMap_cons,hr]
  cases j with
  | zero =>
   simp at h
   subst h
   exact ⟨hy,rfl,rfl⟩
  | succ j =>
   obtain ⟨h1,h2,h3⟩:=rep_at w l (fun y hy=>hn y (by simp [hy])) j x z (by simpa using h)
   exact ⟨h1,by simpa [Nat.mul_succ] using h2,by simpa [Nat.mul_succ] using h3⟩
theorem rep_len (w:Pat):∀ (l:List (Ed × Option Pat)),(∀ y∈l,y.2=none)→(l.flatMap (tH w)).length=2 * l.length
 | [],_=>rfl
 | y :: l,hn=>by
  have hy:y.2=none:=hn y (by simp)
  have hr:tH w y=[(y.1,none),(y.1,some w)]:=by simp only [tH,hy]
  rw [List.flatMap_cons,List.length_append,rep_len w l (fun y hy=>hn y (by simp [hy])),hr]
  simp;omega
theorem enters_derivative_repeated_1 : xu EE.P 201:=enters_of rfl (by decide) T201.2
theorem X_repeated0 (q w:Pat) (hd:∀ y∈q.outs,y.2=none)
 (g:FuncId) (cs:List AV) (hcs:AV.closedL cs=true) (pq:PCall EE 172 [q.enc] (.fn g cs)) (hq:XCall EE.P EE.G g cs (q.outs.map wM)):XCall EE.P EE.G 201 [.iptr q.enc.cells,.iptr w.enc.cells] ((q.outs.flatMap (tH w)).map wM):=by
 refine ⟨enters_derivative_repeated_1,fun X hS blk hy=>?_⟩
 have hat:=rep_at w q.outs hd
 have hln:=rep_len w q.outs hd
 rw [List.length_map,hln]
 have hcl:=Pat.closed q
 have kw:=Pat.closed w
 have pqx:=pq.toX X hS
 obtain ⟨qO,qA,qT,qV,qS,qN,qCo,qCa,qCv,qCf,qCk,qXk,qXn,qXt,hx⟩:=Pat.form q
 obtain ⟨wO,wA,wT,wV,wS,wN,wCo,wCa,wCv,wCf,wCk,wXk,wXn,wXt,hw⟩:=Pat.form w
 have hz0:wR none=_:=uu
 have hz1:wR (some w)=.agg (bool false :: [int wO,.isl 14 wA,int wT,int wV,int wS,int wN,int wCo,.isl 8 wCa,int wCv,int wCf,int wCk,int wXk,int wXn,str wXt]):=by rw [wR,hw];rfl
 have kz0:=xi none
 rw [hz0] at kz0
 rw [hw] at kw ⊢
 rw [hx] at hcl pqx ⊢
 clear hx hw pq
 obtain ⟨cf,hcf⟩:∃ cf:Nat→Nat,∀ j,cf j=2 * j:=⟨_,fun _=>rfl⟩
 have hc0:0=cf 0:=by rw [hcf]
 have hc1:∀ j,cf (j+1)=cf j+1+1:=fun j=>by rw [hcf,hcf];omega
 have hcl':2 * q.outs.length=cf (List.map wM q.outs).length:=by rw [hcf,List.length_map]
 dsimp only [AV.cells]
 refine zo ?_;unhygienic intros
 have nt:bNot true=false:=by simp only [ee];rfl
 have nf:bNot false=true:=by simp only [ee];rfl
 have no:∀ b,bOr false b=b:=fun b=>by simp only [ee];cases b<;>rfl
 have no2:∀ b,bOr true b=true:=fun b=>by simp only [ee];cases b<;>rfl
 refine rB T201 [] ?_
 refine Aq ?_
 refine zh (args:=[.agg [int qO,.isl 14 qA,int qT,int qV,int qS,int qN,int qCo,.isl 8 qCa,int qCv,int qCf,int qCk,int qXk,int qXn,str qXt]]) rfl rfl rfl pqx (zg hcl) ?_
 refine Aq ?_
 have kws:AV.closedL [int wO,.isl 14 wA,int wT,int wV,int wS,int wN,int wCo,.isl 8 wCa,int wCv,int wCf,int wCk,int wXk,int wXn,str wXt]=true:=by simpa only [AV.closed] using kw
 have kqs:AV.closedL [int qO,.isl 14 qA,int qT,int qV,int qS,int qN,int qCo,.isl 8 qCa,int qCv,int qCf,int qCk,int qXk,int qXn,str qXt]=true:=by simpa only [AV.closed] using hcl
 refine AWP.ent (yz (F':=[(7,.fn g cs),(3,.ptr 1 0),(2,.iptr [int wO,.isl 14 wA,int wT,int wV,int wS,int wN,int wCo,.isl 8 wCa,int wCv,int wCf,int wCk,int wXk,int wXn,str wXt]),(1,.iptr [int qO,.isl 14 qA,int qT,int qV,int qS,int qN,int qCo,.isl 8 qCa,int qCv,int qCf,int qCk,int qXk,int qXn,str qXt])]) ⟨.refl _,.refl _,.refl _,.refl _,trivial⟩) ?_
 have kF:KpF 3 [(7,.fn g cs),(3,.ptr 1 0),(2,.iptr [int wO,.isl 14 wA,int wT,int wV,int wS,int wN,int wCo,.isl 8 wCa,int wCv,int wCf,int wCk,int wXk,int wXn,str wXt]),(1,.iptr [int qO,.isl 14 qA,int qT,int qV,int qS,int qN,int qCo,.isl 8 qCa,int qCv,int qCf,int qCk,int qXk,int qXn,str qXt])]:=⟨.cl hcs,.ptr (by decide),.cl kws,.cl kqs,trivial⟩
 rw [show AObj.ext 0 false=AObj.ext (cf 0) false from by rw [← hc0]]
 rw [hcl']
 refine on_rfunE cf [.cells [yv blk]] rfl hq hcs (fun a ha=>by obtain ⟨y,_,rfl⟩:=List.mem_map.1 ha;exact outA_closed y) (fun a ha=>by obtain ⟨y,_,rfl⟩:=List.mem_map.1 ha;rfl)
  ⟨.cells (.cl rfl),trivial⟩ kF (fun j args hj=>?_) ?_ (fun s=>?_)
 · rw [List.getElem?_map] at hj
   obtain ⟨⟨x,z⟩,hyj,rfl⟩:=Option.map_eq_some_iff.1 hj
   obtain ⟨rfl,ht1,ht2⟩:=hat j x z hyj
   have hout1:(List.map wM (q.outs.flatMap (tH w)))[cf j]? = some (wM (x,none)):=by rw [hcf,List.getElem?_map,ht1];rfl
   have hout2:(List.map wM (q.outs.flatMap (tH w)))[cf j+1]? = some (wM (x,some w)):=by rw [hcf,List.getElem?_map,ht2];rfl
   rw [hc1]
   clear hyj hj hat ht1 ht2 hq hcl' hln hd
   obtain ⟨co,ec,cv,cf',ck,xk,xn,xt,he,hec⟩:=x.form
   have kx:=x.closed
   show zl _ _ _ _ _ _ (vM _ _ (wM (x,none))) _
   simp only [wM] at hout1 hout2 ⊢
   rw [he,hz0] at hout1
   rw [he,hz1] at hout2
   rw [he,hz0]
   rw [he] at kx
   clear he hec hz0 hz1
   generalize zy int x.opens=e1 at *
   generalize zy int x.closes=e2 at *
   generalize zy Ex.enc x.checks=e3 at *
   generalize zy wy x.limits=e4 at *
   generalize zy int x.inside=e5 at *
   refine Aq ?_
   refine yZ rfl ?_
   have fz:=And.intro nt (And.intro nf (And.intro no no2))
   refine Cq ?_
   refine Cr ?_
   refine Cq ?_
   refine w9 hy hout1 rfl rfl rfl rfl (WkL.refl _ _) rfl rfl ?_ ?_
   · refine Cq ?_
     refine goC 60 ?_
     refine w9 hy hout2 rfl rfl rfl rfl (WkL.refl _ _) rfl rfl ?_ ?_
     · refine go rfl hX 0 (by conv=>lhs;cbv;try simp only [nt,nf,no,no2];cbv;try simp only [nt,nf,no,no2];cbv;try simp only [nt,nf,no,no2];cbv;try simp only [nt,nf,no,no2];cbv) ?_ ?_
       · simp only [Cd.ok];skip
       refine goC 60 ?_
       exact rndE_next rfl rfl
     refine go rfl hX 0 (by conv=>lhs;cbv;try simp only [nt,nf,no,no2];cbv;try simp only [nt,nf,no,no2];cbv;try simp only [nt,nf,no,no2];cbv;try simp only [nt,nf,no,no2];cbv) ?_ ?_
     · simp only [Cd.ok];skip
     refine goC 60 ?_
     exact uI rfl rfl
   refine Cq ?_
   refine goC 60 ?_
   refine yw rfl rfl rfl rfl ?_
   refine Cq ?_
   refine goC 60 ?_
   exact uI rfl rfl
 · show zl _ _ _ _ (.out .normal) _ _ _
   generalize cf (List.map wM q.outs).length=m
   refine Aq ?_
   exact oE_norm (fun _=>.inl rfl)
 show zl _ _ _ _ (.out .ret) _ _ _
 refine Aq ?_
 exact tA (fun _=>.inr ⟨_,rfl⟩)
def ActT (p:Pat):Prop:=PCall EE 160 [p.enc] (.isl 11 (zy Gd.enc p.act))
theorem ActT.zero {p:Pat} (h1:p.op≠1) (h8:p.op≠8) (h3:p.op≠3) (h9:p.op≠9) (h10:p.op≠10) (h7:p.op≠7):ActT p:=by
 have ha:p.act=[]:=by rw [Pat.act_eq,rY,if_neg (by omega),if_neg h3,if_neg h9]
 have h0:zy Gd.enc []=[]:=by rw [zu];rfl
 unfold ActT
 rw [ha,h0]
 have hcl:=Pat.closed p
 obtain ⟨pO,pA,pT,pV,pS,pN,pCo,pCa,pCv,pCf,pCk,pXk,pXn,pXt,hx,hxc,hpO,hpA,hpT,hpV,hpS,hpN⟩:=Pat.form2 p
 rw [hx] at hcl ⊢
 refine zo ?_;unhygienic intros
 have n1:iEq pO 1=false:=by simp only [ee];simp [hpO];omega
 have n8:iEq pO 8=false:=by simp only [ee];simp [hpO];omega
 have n3:iEq pO 3=false:=by simp only [ee];simp [hpO];omega
 have n9:iEq pO 9=false:=by simp only [ee];simp [hpO];omega
 have n10:iEq pO 10=false:=by simp only [ee];simp [hpO];omega
 have n7:iEq pO 7=false:=by simp only [ee];simp [hpO];omega
 refine fB T160 [.t 2] ?_
 have fz:=n1
 refine Cq ?_
 have fz:=And.intro n1 n8
 refine Cr ?_
 have fz:=And.intro n8 n3
 refine Cr ?_
 have fz:=And.intro n3 n9
 refine Cr ?_
 have fz:=And.intro n9 n10
 refine Cr ?_
 have fz:=And.intro n10 n7
 refine Cr ?_
 have fz:=n7
 refine goC 60 ?_
 refine zP rfl rfl ?_
 exact ⟨[.gone],⟨trivial,trivial⟩,.nilI _⟩
theorem ActT.one {p q:Pat} {r:List Pat} (h1:p.op=1) (hp:p.args=q :: r) (hq:ActT q):ActT p:=by
 have ha:p.act=q.act:=by rw [Pat.act_eq,rY,if_pos (by omega),hp];rfl
 unfold ActT at hq ⊢
 rw [ha]
 have hcl:=Pat.closed p
 have kq:=Pat.closed q
 have kg:=Gd.closedI q.act
 obtain ⟨pO,pA,pT,pV,pS,pN,pCo,pCa,pCv,pCf,pCk,pXk,pXn,pXt,hx,hxc,hpO,hpA,hpT,hpV,hpS,hpN⟩:=Pat.form2 p
 have hpl:pA.length=p.args.length:=by rw [hpA,zp]
 have hpos:0<pA.length:=by rw [hpl,hp];simp
 have hat0:pA[0]? = some q.enc:=by rw [hpA,hp,zu];rfl
 rw [hx] at hcl ⊢
 obtain ⟨qO,qA,qT,qV,qS,qN,qCo,qCa,qCv,qCf,qCk,qXk,qXn,qXt,hy⟩:=Pat.form q
 rw [hy] at kq hq hat0
 generalize zy Gd.enc q.act=gl at *
 refine zo ?_;unhygienic intros
 have n1:iEq pO 1=true:=by simp only [ee];simp [hpO];omega
 have hat:atA pA 0=.agg [int qO,.isl 14 qA,int qT,int qV,int qS,int qN,int qCo,.isl 8 qCa,int qCv,int qCf,int qCk,int qXk,int qXn,str qXt]:=by simp only [ee];simp [List.getD_eq_getElem?_getD,hat0]
 refine fB T160 [.t 2] ?_
 have fz:=n1
 refine Cq ?_
 have fz:=And.intro n1 hat
 refine Cr ?_
 refine goC 60 ?_
 refine zh (args:=[.agg [int qO,.isl 14 qA,int qT,int qV,int qS,int qN,int qCo,.isl 8 qCa,int qCv,int qCf,int qCk,int qXk,int qXn,str qXt]]) rfl rfl rfl hq (zg kq) ?_
 refine Aq ?_
 refine zP rfl rfl ?_
 exact tu rfl kg
theorem P_Guards {p:Pat} (hs:p.Sm) (hc:p.chkR=0) (ha:ActT p):PCall EE 132 [p.enc] (.tup [.isl 11 (zy Gd.enc p.act),int 0]):=by
 have pc:=vR p hs
 rw [hc] at pc
 unfold ActT at ha
 have hcl:=Pat.closed p
 have kg:=Gd.closedI p.act
 obtain ⟨pO,pA,pT,pV,pS,pN,pCo,pCa,pCv,pCf,pCk,pXk,pXn,pXt,hx⟩:=Pat.form p
 rw [hx] at hcl pc ha ⊢
 generalize zy Gd.enc p.act=gl at *
 refine zo ?_;unhygienic intros
 have k0:iNe 0 0=false:=by simp only [ee];rfl
 refine fB T132 [.t 2,.t 3] ?_
 refine Aq ?_
 refine zh (args:=[.agg [int pO,.isl 14 pA,int pT,int pV,int pS,int pN,int pCo,.isl 8 pCa,int pCv,int pCf,int pCk,int pXk,int pXn,str pXt]]) rfl rfl rfl pc (zg hcl) ?_
 have fz:=k0
 refine Cq ?_
 refine goC 60 ?_
 refine zh (args:=[.agg [int pO,.isl 14 pA,int pT,int pV,int pS,int pN,int pCo,.isl 8 pCa,int pCv,int pCf,int pCk,int pXk,int pXn,str pXt]]) rfl rfl rfl ha (zg hcl) ?_
 refine Aq ?_
 refine zP rfl rfl ?_
 exact tu rfl (by simp only [AV.closed,AV.closedL,Bool.and_true] at kg ⊢;exact kg)
theorem enters_prefix_path_1 : xu EE.P 113:=enters_of rfl (by decide) T113.2
theorem C_path0 (bl:List Br) (m:Nat) (hd:Dec bl m) (hm:m≤bl.length) (hb:bl.length<1000000) (l:Nat) (Hr:Nat→zz) (S:zz→Prop) (v0:Int) (hv0:v0<m)
 (hR:∀ (j:Nat) (z:Int),(ups bl v0)[j]? = some z→AYield EE l [int z] (.cells [int z] :: Hr j) fun v H'=>(v=.val (.bool true)∧H'=.cells [int z] :: Hr (j+1))∨(v=.val (.bool false)∧S H')) :
 ACall EE 113 [.yld l,.ptr 0 0,.iptr [.isl 11 (zy Br.enc bl)]] (.cells [int v0] :: Hr 0) fun _ H'=>(∃ z,H'=.cells [int z] :: Hr (ups bl v0).length)∨S H':=by
 have kb:=Br.closedI bl
 have hbl:=zp Br.enc bl
 have hat:∀ (v:Int) (x:Br),0≤v→bl[v.toNat]? = some x→(zy Br.enc bl).getD v.toNat .undef=x.enc:=fun v x h0 hx=>by
  rw [zu];simp [List.getD_eq_getElem?_getD,List.getElem?_map,hx]
 generalize zy Br.enc bl=es at *
 generalize hu:ups bl v0=us at *
 refine zo ?_;unhygienic intros
 have nt:bNot true=false:=by simp only [ee];rfl
 have nf:bNot false=true:=by simp only [ee];rfl
 refine rB T113 [] ?_
 refine Aq ?_
 refine ze (ι:=Nat × Int) (fun p=>([(0,.yld l),(1,.ptr 0 0),(2,.iptr [.isl 11 es])],.cells [int p.2] :: Hr p.1)) (fun p=>p.2<m∧∃ d,us=d++ups bl p.2∧p.1=d.length) (fun p=>p.2.toNat) (0,v0) ⟨hv0,[],hu.symm,rfl⟩ ?_ ?_
 · exact yz ⟨.refl _,.refl _,.refl _,trivial⟩
 rintro ⟨j,v⟩ ⟨hv,d,hd1,hj⟩
 dsimp only at hv hd1 hj ⊢
 by_cases hp:0<v
 · have m1:iLt 0 v=true:=by simp only [ee];simpa using hp
   obtain ⟨x,hx⟩:∃ x,bl[v.toNat]? = some x:=⟨_,List.getElem?_eq_getElem (by omega)⟩
   have hst:=ups_step hd hm hp hv hx
   have hdx:=hd v.toNat x (by omega) hx
   have hjv:us[j]? = some v:=by rw [hd1,hst,hj];simp
   have hy:=hR j v hjv
   have he:atA es v=x.enc:=by simp only [ee];exact hat v x (by omega) hx
   obtain ⟨co,ec,cv,cf,ck,xk,xn,xt,hxe,hec⟩:=x.form
   rw [hxe] at he
   generalize zy Tl.enc x.queries=qq at *
   have fz:=m1
   refine Cq ?_
   refine goC 60 ?_
   refine on_callv rfl rfl rfl rfl hy ?_
   rintro v1 H1 (⟨rfl,rfl⟩ | ⟨rfl,hS⟩)
   · have fz:=And.intro nt he
     refine Cq ?_
     refine goC 60 ?_
     refine zm (j+1,x.parent) ⟨by dsimp only;omega,d++[v],by rw [hd1,hst];simp,by simp [hj]⟩ (by dsimp only;omega) ?_
     exact yz ⟨.refl _,.refl _,.refl _,trivial⟩
   have fz:=nf
   refine Cq ?_
   refine goC 60 ?_
   refine zf ?_
   exact wo (Ent.refl _ _ _ _ _) rfl (.inr hS)
 have m1:iLt 0 v=false:=by simp only [ee];simpa using hp
 have hlow:=tN (l:=bl) (v:=v) (by omega)
 rw [hlow,List.append_nil] at hd1
 have fz:=m1
 refine Cq ?_
 refine goC 60 ?_
 refine zk ?_
 refine Aq ?_
 exact t6 (Ent.refl _ _ _ _ _) rfl (.inl ⟨v,by rw [hd1,hj]⟩)
theorem O_path (bl:List Br) (v:Int):OCall EE 68 [.isl 11 (zy Br.enc bl),int v] (.fn 113 [.ptr 0 0,.iptr [.isl 11 (zy Br.enc bl)]]) [.cells [int v]]:=by
 have kb:=Br.closedI bl
 generalize zy Br.enc bl=es at *
 have kc:AV.closedL [.isl 11 es]=true:=zg kb
 refine zo ?_;unhygienic intros
 refine oB T68 [.t 4] ?_
 refine Aq ?_
 exact wo (F2:=[(4,.fn 113 [.ptr 0 0,.iptr [.isl 11 es]])]) (H2:=[.cells [int v]]) (ya [.icells [.isl 11 es],.to 0] [some 1] ⟨⟨_,rfl,(zw _ kc).symm⟩,⟨by simp,rfl⟩,trivial⟩ ⟨zx (b:=1) rfl rfl rfl ⟨.refl _,trivial⟩,trivial⟩ ⟨.refl _,trivial⟩) rfl ⟨rfl,rfl⟩
theorem P_depth (bl:List Br) (m:Nat) (hd:Dec bl m) (hm:m≤bl.length) (hb:bl.length<1000000) (v0:Int) (hv0:v0<m):PCall EE 73 [.isl 11 (zy Br.enc bl),int v0] (int (ups bl v0).length):=by
 have kb:=Br.closedI bl
 have op:=O_path bl v0
 have cp:=C_path0 bl m hd hm hb 2
 have hun:=ups_len hd hm v0.toNat v0 hv0 (Nat.le_refl _)
 generalize zy Br.enc bl=es at *
 have kI:(AV.iptr [.isl 11 es]).closed=true:=by rw [AV.closed,zg kb]
 refine zo ?_;unhygienic intros
 refine fB T73 [.t 4] ?_
 refine Aq ?_
 refine wH (args:=[.isl 11 es,int v0]) (v':=.fn 113 [.ptr 1 0,.iptr [.isl 11 es]]) (H':=[.cells [int v0]]) rfl rfl rfl op (by rw [AV.closedL,kb];rfl) ?_ rfl ?_
 · show AV.fn _ [_,AV.sub _ _]=_
   rw [xc _ _ _ (Nat.le_refl _) kI];rfl
 refine Aq ?_
 refine AWP.ent (F':=[(8,.fn 113 [.ptr 0 0,.iptr [.isl 11 es]]),(5,.ptr 1 0)]) (H':=[.cells [int v0],.cells [int 0]]) (ya [.to 1,.to 0] [some 1,some 0] ⟨⟨by simp,rfl⟩,⟨by simp,rfl⟩,trivial⟩ ⟨zx (b:=1) rfl rfl rfl ⟨.refl _,trivial⟩,zx (b:=0) rfl rfl rfl ⟨.refl _,trivial⟩,trivial⟩ ⟨?_,.refl _,trivial⟩) ?_
 · refine .of ?_
   show AV.fn _ [AV.ptr 0 0,AV.sub _ (AV.iptr [AV.isl 11 es])]=_
   rw [xc _ _ _ (Nat.le_refl _) kI]
 refine sZ rfl enters_prefix_path_1 ((cp (fun j=>[.cells [int j],.loop _ _ _ _ _ .ready none]) (fun _=>False) v0 hv0 (fun j z hz=>?_)).mono ?_)
 · refine yield_round rfl rfl ?_
   have hjl:=(List.getElem?_eq_some_iff.1 hz).1
   have ha:iAdd .i64 (j:Int) 1=((j+1:Nat):Int):=yh e_iAdd rfl (by omega)
   obtain ⟨j1,hj1⟩:∃ j1:Int,j1=((j+1:Nat):Int):=⟨_,rfl⟩
   rw [← hj1] at ha ⊢
   obtain ⟨j0,hj0⟩:∃ j0:Int,j0=(j:Int):=⟨_,rfl⟩
   rw [← hj0] at ha ⊢
   refine Aq ?_
   refine yZ rfl ?_
   have fz:=ha
   refine Cq ?_
   refine goC 60 ?_
   exact ⟨none,rfl,.inl ⟨rfl,rfl⟩⟩
 rintro e H1 (⟨z,rfl⟩ | h)
 · refine ⟨.ready,none,rfl,by decide,?_⟩
   show zl _ _ _ _ (.out .normal) _ _ _
   generalize ((ups bl v0).length:Int)=n
   refine Aq ?_
   exact fV
 exact h.elim
end Go.Am
end
