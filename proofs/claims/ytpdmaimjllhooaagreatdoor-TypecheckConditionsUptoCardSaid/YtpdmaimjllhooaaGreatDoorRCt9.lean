/- Contracts of the program's functions. -/
import Derived.Test.YtpdmaimjllhooaaGreatDoorProg
import Derived.Test.YtpdmaimjllhooaaGreatDoorRCt8
import Derived.Test.YtpdmaimjllhooaaGreatDoorCards
import Derived.Test.YtpdmaimjllhooaaGreatDoorRows
import Derived.Test.YtpdmaimjllhooaaGreatDoorTie
section
set_option maxHeartbeats 16000000
set_option maxRecDepth 100000
namespace Go.Am
open Go.Proofs
def Pat.nok (q:Pat):Prop:=0≤q.op∧q.op<8∧(zD q.op=true→0≤q.var∧q.var<16)∧(q.op=0→q.args=[])∧(q.op=5∨q.op=6∨q.op=7→∃ e,q.args=[e])
theorem nodeE_nok {q:Pat} (h:q.nodeE=0) (h8:q.op<8):q.nok:=by
 unfold Pat.nodeE at h
 by_cases h1:q.op<0∨11≤q.op
 · rw [if_pos h1] at h;cases h
 rw [if_neg h1] at h
 by_cases h2:(q.args.length:Int)<wE q.op∨vC q.op<q.args.length
 · rw [if_pos h2] at h;cases h
 rw [if_neg h2] at h
 by_cases h3:(zD q.op=true∧(q.ty<0∨15<q.ty∨q.var<0∨15<q.var))∨(yD q.op=true∧(q.scope<0∨63<q.scope))∨(y8 q.op=true∧(q.span<0∨1099511627776<q.span))
 · rw [if_pos h3] at h;cases h
 refine ⟨by omega,h8,fun ht=>⟨Int.not_lt.1 fun hh=>h3 (.inl ⟨ht,.inr (.inr (.inl hh))⟩),?_⟩,fun h0=>?_,fun h5=>?_⟩
 · have:¬ 15<q.var:=fun hh=>h3 (.inl ⟨ht,.inr (.inr (.inr hh))⟩)
   omega
 · have hm:vC q.op=0:=by rw [h0];rfl
   rw [hm] at h2
   exact List.length_eq_zero_iff.1 (by omega)
 have hm:wE q.op=1∧vC q.op=1:=by rcases h5 with h5 | h5 | h5<;>rw [h5]<;>exact ⟨rfl,rfl⟩
 rw [hm.1,hm.2] at h2
 exact List.length_eq_one_iff.1 (by omega)
def Pat.wf (p:Pat):Prop:=∀ q∈p.nodes,q.nok
theorem ti {p:Pat} (h:p.chk=0):p.wf:=fun q hq =>
 nodeE_nok ((we (vm h).1).2.1 q hq) ((we (vm h).1).2.2 q hq)
theorem Pat.wf.arg {o a t v s n c} (h:(Pat.mk o a t v s n c).wf) {e:Pat} (he:e∈a):e.wf:=fun q hq=>h q (by
 rw [Pat.nodes]
 obtain ⟨d,r,rfl⟩:=List.append_of_mem he
 simp [Pat.nodesL_append,Pat.nodesL,hq])
theorem Pat.wf.self {p:Pat} (h:p.wf):p.nok:=h p (by rw [Pat.nodes_eq];simp)
theorem Pat.wf.node {p q:Pat} (h:p.wf) (hq:q∈p.nodes):q.wf:=fun x hx=>h x ((cnt_node p q hq).2.2 x hx)
theorem vq {p:Pat} (h:p.wf):VR p.bound:=fun n hn=>by
 rw [Pat.bound_mem] at hn
 unfold xP at hn
 obtain ⟨q,hq,rfl⟩:=List.mem_map.1 hn
 have hq:=List.mem_filter.1 hq
 have h0:q.op=0:=by simpa using hq.2
 exact (h q hq.1).2.2.1 (by rw [h0];rfl)
theorem xK : ∀ p:Pat,p.wf→p.ones.Pairwise (· < ·)∧VR p.ones:=Pat.ind fun o a t v s n c ih h=>by
 have hL:∀ (r:List Pat) (acc:List Int),(∀ e∈r,e∈a)→acc.Pairwise (· < ·)∧VR acc→(Pat.onesL acc r).Pairwise (· < ·)∧VR (Pat.onesL acc r):=by
  intro r
  induction r with
  | nil=>intro acc _ ha;rw [Pat.onesL];exact ha
  | cons x r ihr =>
   intro acc hm ha
   rw [Pat.onesL]
   exact ihr _ (fun e he=>hm e (by simp [he])) ⟨xy _ _,ha.2.uni (ih x (hm x (by simp)) (h.arg (hm x (by simp)))).2⟩
 rw [Pat.ones]
 split
 · split
   · rename_i _ h0
     refine ⟨List.pairwise_singleton _ _,fun n hn=>?_⟩
     simp at hn
     have:=h.self.2.2.1 (by simp only [Pat.op];rw [h0];rfl)
     simp only [Pat.var] at this
     omega
   exact hL a [] (fun _ h=>h) ⟨List.Pairwise.nil,fun _ h=>by cases h⟩
 exact ⟨List.Pairwise.nil,fun _ h=>by cases h⟩
theorem wP {p:Pat} (h:p.wf):p.ones.length≤16:=(xK p h).2.len (xK p h).1
theorem wu {p:Pat} (h:p.wf):p.bound.length≤16:=(vq h).len p.bound_nodup
theorem uni_nil {a:List Int} (h:a.Pairwise (· < ·)):zG [] a=a:=uni_ext h fun n=>by simp
theorem bound_arg {p e:Pat} (h0:p.op≠0) (ha:p.args=[e]):p.bound=e.bound:=by
 unfold Pat.bound
 rw [Pat.nodes_eq,ha,bndF_cons,if_neg h0]
 simp [Pat.nodesL]
theorem ones_arg {p e:Pat} (h0:p.op≠0) (hk:vZ p.op=true) (ha:p.args=[e]) (he:e.wf):p.ones=e.ones:=by
 obtain ⟨o,a,t,v,s,n,c⟩:=p
 simp only [Pat.op,Pat.args] at h0 hk ha
 subst ha
 rw [Pat.ones,if_pos hk,if_neg h0,Pat.onesL,Pat.onesL,uni_nil (xK e he).1]
def Plc.ok (l:Plc):Prop:=VR l.us∧VR l.si∧l.us.length≤16∧l.si.length≤16
theorem PlcS_ok : PlcS.ok:=⟨fun _ h=>(by cases h),fun _ h=>(by cases h),by decide,by decide⟩
theorem Plc.ok.plus {l:Plc} (h:l.ok) {e:Pat} (he:e.wf):(l.plus e).ok:=by
 have h1:=h.1.uni (vq he)
 have h2:=h.2.1.uni (xK e he).2
 exact ⟨h1,h2,h1.len (xy _ _),h2.len (xy _ _)⟩
theorem Pat.lfL_ok {b:Bool} {r:List Pat} (ih:∀ e∈r,e.wf→∀ l:Plc,l.ok→∀ x∈Pat.lf l e,x.2.ok∧x.1∈e.nodes) (hw:∀ e∈r,e.wf):∀ l:Plc,l.ok→∀ x∈Pat.lfL b l r,x.2.ok∧x.1∈Pat.nodesL r:=by
 induction r with
 | nil=>intro l _ x hx;cases hx
 | cons y r ihr =>
  intro l hl x hx
  rw [Pat.lfL] at hx
  rw [Pat.nodesL]
  rcases List.mem_append.1 hx with hx | hx
  · obtain ⟨h1,h2⟩:=ih y (by simp) (hw y (by simp)) l hl x hx
    exact ⟨h1,List.mem_append.2 (.inl h2)⟩
  obtain ⟨h1,h2⟩:=ihr (fun e he=>ih e (by simp [he])) (fun e he=>hw e (by simp [he])) (if b then l.plus y else l) (by split;exact hl.plus (hw y (by simp));exact hl) x hx
  exact ⟨h1,List.mem_append.2 (.inr h2)⟩
theorem Pat.lf_ok : ∀ p:Pat,p.wf→∀ l:Plc,l.ok→∀ x∈Pat.lf l p,x.2.ok∧x.1∈p.nodes:=Pat.ind fun o a t v s n c ih h l hl x hx=>by
 rw [Pat.lf] at hx
 rw [Pat.nodes]
 rcases List.mem_cons.1 hx with rfl | hx
 · exact ⟨hl,List.mem_cons_self⟩
 obtain ⟨h1,h2⟩:=Pat.lfL_ok ih (fun e he=>h.arg he) l hl x hx
 exact ⟨h1,List.mem_cons_of_mem _ h2⟩
theorem own_ok {q:Pat} (hq:q.wf) (ht:yB q.op=true) {l:Plc} (hl:l.ok):(q.own l).ok:=by
 have hn:=hq.self
 have v1:zD q.op=true→VR [q.var]:=fun h n hn2=>by simp at hn2;rw [hn2];exact hn.2.2.1 h
 have fin:∀ a b c,VR a→VR b→a.Pairwise (· < ·)→b.Pairwise (· < ·)→(⟨a,b,c⟩:Plc).ok:=fun a b c h1 h2 h3 h4=>⟨h1,h2,h1.len h3,h2.len h4⟩
 unfold Pat.own
 by_cases h0:q.op=0
 · rw [if_pos h0]
   have v1:=v1 (by rw [h0];rfl)
   exact fin _ _ _ (hl.1.uni v1) (hl.2.1.uni v1) (xy _ _) (xy _ _)
 rw [if_neg h0]
 have h57:q.op=5∨q.op=7:=by unfold yB at ht;simp at ht;omega
 obtain ⟨e,he⟩:=hn.2.2.2.2 (by omega)
 have hea:q.arg0=e:=by unfold Pat.arg0;rw [he];rfl
 have hew:e.wf:=by
  obtain ⟨o,a,t,v,s,n,c⟩:=q
  simp only [Pat.args] at he
  exact hq.arg (by rw [he];simp)
 rw [hea]
 by_cases h5:q.op=5
 · rw [if_pos h5]
   have v1:=v1 (by rw [h5];rfl)
   exact fin _ _ _ ((hl.1.uni (vq hew)).uni v1) (hl.2.1.uni v1) (xy _ _) (xy _ _)
 rw [if_neg h5]
 exact fin _ _ _ (hl.1.uni (vq hew)) (hl.2.1.uni (xK e hew).2) (xy _ _) (xy _ _)
theorem sc_row {o:Int} (h0:0≤o) (h1:o<8):Wd.rowA (Classical.choice wT).g o 2=[bool (vZ o),bool (yB o)]:=by
 rw [(Classical.choice wT).h]
 obtain ⟨n,rfl⟩:∃ n:Nat,o=n:=⟨o.toNat,by omega⟩
 have:n<8:=by omega
 match n,this with
 | 0,_ | 1,_ | 2,_ | 3,_ | 4,_ | 5,_ | 6,_ | 7,_=>rfl
theorem onesL_snoc (acc:List Int) (d:List Pat) (q:Pat):Pat.onesL acc (d++[q])=zG (Pat.onesL acc d) q.ones:=by
 induction d generalizing acc with
 | nil=>rw [List.nil_append,Pat.onesL,Pat.onesL,Pat.onesL]
 | cons x r ih=>rw [List.cons_append,Pat.onesL,ih,Pat.onesL]
theorem onesL_ok {d:List Pat} (h:∀ e∈d,e.wf):(Pat.onesL [] d).Pairwise (· < ·)∧VR (Pat.onesL [] d)∧(Pat.onesL [] d).length≤16:=by
 have:∀ (n:Nat) (d:List Pat),d.length=n→(∀ e∈d,e.wf)→(Pat.onesL [] d).Pairwise (· < ·)∧VR (Pat.onesL [] d):=by
  intro n
  induction n with
  | zero=>intro d hd _;obtain rfl:=List.length_eq_zero_iff.1 hd;rw [Pat.onesL];exact ⟨List.Pairwise.nil,fun _ h=>by cases h⟩
  | succ n ih =>
   intro d hd hw
   have hne:d≠[]:=by rintro rfl;cases hd
   obtain ⟨e,x,rfl⟩:∃ e x,d=e++[x]:=⟨d.dropLast,d.getLast hne,(List.dropLast_concat_getLast hne).symm⟩
   rw [onesL_snoc]
   exact ⟨xy _ _,(ih e (by simpa using hd) (fun y hy=>hw y (by simp [hy]))).2.uni (xK x (hw x (by simp))).2⟩
 obtain ⟨h1,h2⟩:=this _ d rfl h
 exact ⟨h1,h2,h2.len h1⟩
theorem P_ones : ∀ p:Pat,p.Sm→p.wf→PCall EE 110 [p.enc] (.isl 1 (mapE int p.ones)):=by
 refine Pat.ind ?_
 intro o a t v s n c ih hs hw
 have hlen:=hs.len
 have hih:∀ q∈a,PCall EE 110 [q.enc] (.isl 1 (mapE int q.ones)):=fun q hq=>ih q hq (hs.arg hq) (hw.arg hq)
 have hwa:∀ q∈a,q.wf:=fun q hq=>hw.arg hq
 obtain ⟨ho0,ho1,_,_,_⟩:=hw.self
 simp only [Pat.op] at ho0 ho1
 have hrow:=sc_row ho0 ho1
 have hcl:=Pat.closedI a
 have hpc:=Pat.closed (.mk o a t v s n c)
 have hcc:=Ex.closed c
 obtain ⟨R,hR⟩:∃ R,R=Pat.ones (.mk o a t v s n c):=⟨_,rfl⟩
 rw [← hR]
 rw [Pat.ones] at hR
 obtain ⟨cO,cA,cV,cF,cK,cXk,cXn,cXt,hcx⟩:=Ex.form c
 have hpx:=Pat.enc_c o a t v s n hcx
 simp only [List.cons_append,List.nil_append] at hpx
 rw [hpx] at hpc ⊢
 rw [hcx] at hcc
 have hcaI:(AV.isl 8 cA).closed=true:=by have:=hcc;simp [AV.closed,AV.closedL] at this ⊢;exact this
 have hnil:mapE int []=[]:=by rw [zk];rfl
 have hone:mapE int [v]=[int v]:=by rw [zk];rfl
 clear ih hs hw hpx hcx
 refine zr ?_;unhygienic intros
 generalize hes:mapE Pat.enc a=es at *
 have hel:es.length=a.length:=by rw [← hes,zq]
 have hrw:rowA (Classical.choice wT).g o 2=[bool (vZ o),bool (yB o)]:=by rw [e_rowA];exact hrow
 have n0:bNot false=true:=by simp only [ee];rfl
 have n1:bNot true=false:=by simp only [ee];rfl
 generalize vZ o=kp at *
 generalize yB o=ts at *
 refine fB T110 [.t 2] ?_
 cases kp with
 | false =>
  rw [if_neg (by decide)] at hR
  rw [hR,hnil]
  have fz:=And.intro hrw n0
  refine Cq ?_
  refine Aq ?_
  refine zR rfl rfl ?_
  exact ⟨[.gone],⟨trivial,trivial⟩,.nilI _⟩
 | true =>
 rw [if_pos rfl] at hR
 by_cases h0:o=0
 · have k0:iEq o 0=true:=by simp only [ee];simpa using h0
   rw [if_pos h0] at hR
   rw [hR,hone]
   have fz:=And.intro hrw (And.intro n1 k0)
   refine Cq ?_
   refine Cr ?_
   refine Aq ?_
   refine zR rfl rfl ?_
   exact ⟨[.gone,.isl 1 ([AV.val (Value.int IntKind.i64 v)])],⟨trivial,⟨_,rfl,(zp _ (by rfl)).symm⟩,trivial⟩,.refl _⟩
 have k0:iEq o 0=false:=by simp only [ee];simpa using h0
 rw [if_neg h0] at hR
 have q0:=hR
 have fz:=And.intro hrw (And.intro n1 k0)
 refine Cq ?_
 refine Cr ?_
 refine Aq ?_
 refine zf (ι:=List Pat × List Pat × Int × List AV) (fun p=>([(21,int p.2.2.1),(20,int (lenA es)),(19,.isl 14 es),(3,.isl 1 p.2.2.2)],[])) (fun p=>a=p.1++p.2.1∧p.2.2.1=p.1.length∧p.2.2.2=mapE int (Pat.onesL [] p.1)) (fun p=>p.2.1.length) ([],a,0,[]) ⟨rfl,rfl,by rw [Pat.onesL];exact hnil.symm⟩ ?_ ?_
 · exact (zF [.gone] [] ⟨trivial,trivial⟩ trivial ⟨.refl _,.refl _,.cl hcl,.nilI _,trivial⟩)
 rintro ⟨d,r,i,L⟩ ⟨g1,gi,gL⟩
 dsimp only at g1 gi gL ⊢
 have hLI:(AV.isl 1 L).closed=true:=by rw [gL];exact zx _
 cases r with
 | nil =>
  have L1:=zu g1
  try simp only [List.length] at L1
  have hc:iLt i (lenA es)=false:=yW e_iLt e_lenA (by omega)
  rw [List.append_nil] at g1
  rw [hR,g1,← gL]
  have fz:=hc
  refine Cq ?_
  refine Aq ?_
  refine zo ?_
  refine Aq ?_
  refine zR rfl rfl ?_
  exact ⟨[],trivial,.cl hLI⟩
 | cons q r =>
  have L1:=zu g1
  try simp only [List.length] at L1
  have hc:iLt i (lenA es)=true:=yY e_iLt e_lenA (by omega)
  have hat:=zP e_atA hes g1 gi
  have hqm:q∈a:=by rw [g1];simp
  have hq:=hih q hqm
  have hqw:=hwa q hqm
  have hdo:=onesL_ok (d:=d) (fun e he=>hwa e (by rw [g1];simp [he]))
  have hu:=vL (Pat.onesL [] d) q.ones (by have:=hdo.2.2;omega) (by have:=wP hqw;omega)
  have hsn:=onesL_snoc [] d q
  rw [← gL] at hu
  have hqc:=Pat.closed q
  have hqI:=zx q.ones
  have hi2:iAdd .i64 i 1=((d++[q]).length:Int):=by rw [List.length_append];exact zJ e_iAdd gi (by omega)
  have hL2:mapE int (zG (Pat.onesL [] d) q.ones)=mapE int (Pat.onesL [] (d++[q])):=by rw [hsn]
  have hL2c:=zx (zG (Pat.onesL [] d) q.ones)
  generalize mapE int q.ones=qo at *
  generalize mapE int (zG (Pat.onesL [] d) q.ones)=L2 at *
  obtain ⟨qO,qA,qT,qV,qS,qN,qCo,qCa,qCv,qCf,qCk,qXk,qXn,qXt,hy⟩:=Pat.form q
  rw [hy] at hat hqc hq
  have fz:=And.intro hc hat
  refine Cq ?_
  refine Cr ?_
  refine oPA hq ?_
  refine oPA hu ?_
  refine Aq ?_
  refine zw (d++[q],r,iAdd .i64 i 1,L2) ⟨by simp [g1],hi2,hL2⟩ (by simp) (zF [.gone] [] ⟨trivial,trivial⟩ trivial ⟨.refl _,.refl _,.cl hcl,.cl hL2c,trivial⟩)
theorem P_ref15_Ones : ∀ p:Pat,p.Sm→p.wf→PCall EE 112 [p.enc] (.isl 1 (mapE int p.ones)):=by
 refine Pat.ind ?_
 intro o a t v s n c ih hs hw
 have hlen:=hs.len
 have hih:∀ q∈a,PCall EE 112 [q.enc] (.isl 1 (mapE int q.ones)):=fun q hq=>ih q hq (hs.arg hq) (hw.arg hq)
 have hwa:∀ q∈a,q.wf:=fun q hq=>hw.arg hq
 obtain ⟨ho0,ho1,_,_,_⟩:=hw.self
 simp only [Pat.op] at ho0 ho1
 have hkp:vZ o = !(decide (o=2) || decide (o=4)):=by unfold vZ;rw [Bool.eq_iff_iff];simp;omega
 have hcl:=Pat.closedI a
 have hpc:=Pat.closed (.mk o a t v s n c)
 have hcc:=Ex.closed c
 obtain ⟨R,hR⟩:∃ R,R=Pat.ones (.mk o a t v s n c):=⟨_,rfl⟩
 rw [← hR]
 rw [Pat.ones,hkp] at hR
 obtain ⟨cO,cA,cV,cF,cK,cXk,cXn,cXt,hcx⟩:=Ex.form c
 have hpx:=Pat.enc_c o a t v s n hcx
 simp only [List.cons_append,List.nil_append] at hpx
 rw [hpx] at hpc ⊢
 rw [hcx] at hcc
 have hcaI:(AV.isl 8 cA).closed=true:=by have:=hcc;simp [AV.closed,AV.closedL] at this ⊢;exact this
 have hnil:mapE int []=[]:=by rw [zk];rfl
 have hone:mapE int [v]=[int v]:=by rw [zk];rfl
 clear ih hs hw hpx hcx
 refine zr ?_;unhygienic intros
 generalize hes:mapE Pat.enc a=es at *
 have hel:es.length=a.length:=by rw [← hes,zq]
 refine fB T112 [.t 2] ?_
 by_cases h0:o=0
 · have k0:iEq o 0=true:=by simp only [ee];simpa using h0
   rw [if_pos (by rw [h0];rfl),if_pos h0] at hR
   rw [hR,hone]
   have fz:=k0
   refine Cq ?_
   refine Aq ?_
   refine zR rfl rfl ?_
   exact ⟨[.gone,.isl 1 ([AV.val (Value.int IntKind.i64 v)])],⟨trivial,⟨_,rfl,(zp _ (by rfl)).symm⟩,trivial⟩,.refl _⟩
 have k0:iEq o 0=false:=by simp only [ee];simpa using h0
 by_cases h24:o=2∨o=4
 · have k2:bOr (iEq o 2) (iEq o 4)=true:=by simp only [ee];simpa using h24
   rw [if_neg (by simp;omega)] at hR
   rw [hR,hnil]
   have fz:=And.intro k0 k2
   refine Cq ?_
   refine Cr ?_
   refine Aq ?_
   refine zR rfl rfl ?_
   exact ⟨[.gone],⟨trivial,trivial⟩,.nilI _⟩
 have k2:bOr (iEq o 2) (iEq o 4)=false:=by simp only [ee];simp;omega
 rw [if_pos (by simp;omega),if_neg h0] at hR
 have fz:=And.intro k0 k2
 refine Cq ?_
 refine Cr ?_
 refine Aq ?_
 refine zf (ι:=List Pat × List Pat × Int × List AV) (fun p=>([(4,int p.2.2.1),(1,.ptr 0 0),(3,.isl 1 p.2.2.2)],[.cells [int o,.isl 14 es,int t,int v,int s,int n,int cO,.isl 8 cA,int cV,int cF,int cK,int cXk,int cXn,str cXt]])) (fun p=>a=p.1++p.2.1∧p.2.2.1=p.1.length∧p.2.2.2=mapE int (Pat.onesL [] p.1)) (fun p=>p.2.1.length) ([],a,0,[]) ⟨rfl,rfl,by rw [Pat.onesL];exact hnil.symm⟩ ?_ ?_
 · exact (zF [.to 0] [some 0] ⟨⟨by simp,rfl⟩,trivial⟩ ⟨ze (b:=0) rfl rfl rfl ⟨.refl _,.cl hcl,.refl _,.refl _,.refl _,.refl _,.refl _,.cl hcaI,.refl _,.refl _,.refl _,.refl _,.refl _,.refl _,trivial⟩,trivial⟩ ⟨.refl _,.refl _,.nilI _,trivial⟩)
 rintro ⟨d,r,i,L⟩ ⟨g1,gi,gL⟩
 dsimp only at g1 gi gL ⊢
 have hLI:(AV.isl 1 L).closed=true:=by rw [gL];exact zx _
 cases r with
 | nil =>
  have L1:=zu g1
  try simp only [List.length] at L1
  have hc:iLt i (lenA es)=false:=yW e_iLt e_lenA (by omega)
  rw [List.append_nil] at g1
  rw [hR,g1,← gL]
  have fz:=hc
  refine Cq ?_
  refine Aq ?_
  refine zo ?_
  refine Aq ?_
  refine zR rfl rfl ?_
  exact ⟨[.gone],⟨trivial,trivial⟩,.cl hLI⟩
 | cons q r =>
  have L1:=zu g1
  try simp only [List.length] at L1
  have hc:iLt i (lenA es)=true:=yY e_iLt e_lenA (by omega)
  have hat:=zP e_atA hes g1 gi
  have hqm:q∈a:=by rw [g1];simp
  have hq:=hih q hqm
  have hqw:=hwa q hqm
  have hdo:=onesL_ok (d:=d) (fun e he=>hwa e (by rw [g1];simp [he]))
  have hu:=y9 (Pat.onesL [] d) q.ones hdo.2.1 (xK q hqw).2 (by have:=hdo.2.2;omega) (by have:=wP hqw;omega)
  have hsn:=onesL_snoc [] d q
  rw [← gL] at hu
  have hqc:=Pat.closed q
  have hqI:=zx q.ones
  have hi2:iAdd .i64 i 1=((d++[q]).length:Int):=by rw [List.length_append];exact zJ e_iAdd gi (by omega)
  have hL2:mapE int (zG (Pat.onesL [] d) q.ones)=mapE int (Pat.onesL [] (d++[q])):=by rw [hsn]
  have hL2c:=zx (zG (Pat.onesL [] d) q.ones)
  generalize mapE int q.ones=qo at *
  generalize mapE int (zG (Pat.onesL [] d) q.ones)=L2 at *
  obtain ⟨qO,qA,qT,qV,qS,qN,qCo,qCa,qCv,qCf,qCk,qXk,qXn,qXt,hy⟩:=Pat.form q
  rw [hy] at hat hqc hq
  have fz:=And.intro hc hat
  refine Cq ?_
  refine Cr ?_
  refine oPA hq ?_
  refine oPA hu ?_
  refine Aq ?_
  refine zw (d++[q],r,iAdd .i64 i 1,L2) ⟨by simp [g1],hi2,hL2⟩ (by simp) (zF [.to 0] [some 0] ⟨⟨by simp,rfl⟩,trivial⟩ ⟨ze (b:=0) rfl rfl rfl ⟨.refl _,.cl hcl,.refl _,.refl _,.refl _,.refl _,.refl _,.cl hcaI,.refl _,.refl _,.refl _,.refl _,.refl _,.refl _,trivial⟩,trivial⟩ ⟨.refl _,.refl _,.cl hL2c,trivial⟩)
end Go.Am
end
section
set_option maxHeartbeats 16000000
set_option maxRecDepth 20000
namespace Go.Am
open Go.Proofs
section
variable {E:Env} {n N:Nat} {Q:zL→AFr→zz→Prop} {k:List KI} {F:AFr} {H:zz}
theorem uz {o:AOper} {l:List AOper} {x:Opd} {xs:List Opd} {f:FuncId} {cs args:List AV} {R:AV→zz→Prop} {Hl:zz} (L:List Nat) (hg:o.guard=none) (ho:o.op=.callv x xs) (hf:x.ev E.G F=.fn f cs) (hen:yr E.P f) (hc:ACall E f args Hl R) (hnd:L.Nodup) (hlt:∀ x∈L,x<H.length)
 (hHl:Hl=L.map fun x=>(H.getD x .dead).sub (ya L)) (hargs:args=(xs.map (·.ev E.G F)++cs).map (AV.sub (ya L)))
 (h:∀ v0 H',R v0 H'→L.length≤H'.length→Holds E n N Q (.ops l) k (F.set o.dst (v0.sub (vu L H.length))) (yX H L H')):Holds E n N Q (.ops (o :: l)) k F H:=by
 refine on_callv hg ho hf rfl ⟨hen,ACall.frame hc (H:=H) (args':=xs.map (·.ev E.G F)++cs) L hnd hlt hHl hargs⟩ ?_
 rintro _ _ ⟨v0,H',h1,h2,rfl,rfl⟩
 exact h v0 H' h1 h2
end
def xE {S:Type} (V:Int→Pat × Plc→S→S × Bool):Int→S→List (Pat × Plc)→S × Int × Bool
 | i,s,[]=>(s,i,true)
 | i,s,x :: r=>if (V (i+1) x s).2=true then xE V (i+1) (V (i+1) x s).1 r else ((V (i+1) x s).1,i+1,false)
theorem runV_append {S:Type} (V:Int→Pat × Plc→S→S × Bool):∀ (a b:List (Pat × Plc)) (i:Int) (s:S),xE V i s (a++b)=if (xE V i s a).2.2=true then xE V (xE V i s a).2.1 (xE V i s a).1 b else xE V i s a
 | [],b,i,s=>by simp [xE]
 | x :: a,b,i,s=>by
  rw [List.cons_append,xE,xE]
  by_cases h:(V (i+1) x s).2=true
  · rw [if_pos h,if_pos h,runV_append V a b]
  rw [if_neg h,if_neg h];simp
theorem runV_len {S:Type} (V:Int→Pat × Plc→S→S × Bool):∀ (a:List (Pat × Plc)) (i:Int) (s:S),i≤(xE V i s a).2.1∧(xE V i s a).2.1≤i+a.length∧((xE V i s a).2.2=true→(xE V i s a).2.1=i+a.length)
 | [],i,s=>by simp [xE]
 | x :: a,i,s=>by
  rw [xE]
  by_cases h:(V (i+1) x s).2=true
  · rw [if_pos h]
    have:=runV_len V a (i+1) (V (i+1) x s).1
    simp only [List.length_cons]
    refine ⟨by omega,by omega,fun h2=>?_⟩
    have:=this.2.2 h2
    omega
  rw [if_neg h]
  simp only [List.length_cons]
  exact ⟨by omega,by omega,fun h2=>by cases h2⟩
theorem vO : ∀ i,i<6→ya [0,1,2,3,4,5] i=.to i:=fun i hi=>by
 match i,hi with
 | 0,_ | 1,_ | 2,_ | 3,_ | 4,_ | 5,_=>rfl
theorem wG (m:Nat):∀ i,i<6→vu [0,1,2,3,4,5] m i=.to i:=fun i hi=>by
 match i,hi with
 | 0,_ | 1,_ | 2,_ | 3,_ | 4,_ | 5,_=>rfl
theorem xQ (r:List Sub):∀ i,i<6→ofL (.to 0 :: .to 1 :: .to 2 :: .to 3 :: .to 4 :: .to 5 :: r) i=.to i:=fun i hi=>by
 match i,hi with
 | 0,_ | 1,_ | 2,_ | 3,_ | 4,_ | 5,_=>rfl
def K6 (o:AObj):Prop:=∀ σ:Nat→Sub,(∀ i,i<6→σ i=.to i)→o.sub σ=o
theorem six_out {a0 a1 a2 a3 a4 a5:AObj} (h0:K6 a0) (h1:K6 a1) (h2:K6 a2) (h3:K6 a3) (h4:K6 a4) (h5:K6 a5) (rest:zz) :
 [a0,a1,a2,a3,a4,a5]=[0,1,2,3,4,5].map fun x=>((a0 :: a1 :: a2 :: a3 :: a4 :: a5 :: rest).getD x .dead).sub (ya [0,1,2,3,4,5]):=by
 show _=[a0.sub _,a1.sub _,a2.sub _,a3.sub _,a4.sub _,a5.sub _]
 rw [h0 _ vO,h1 _ vO,h2 _ vO,h3 _ vO,h4 _ vO,h5 _ vO]
theorem six_merge2 {b0 b1 b2 b3 b4 b5:AObj} (h0:K6 b0) (h1:K6 b1) (h2:K6 b2) (h3:K6 b3) (h4:K6 b4) (h5:K6 b5) (a0 a1 a2 a3 a4 a5 r0 r1:AObj) :
 yX [a0,a1,a2,a3,a4,a5,r0,r1] [0,1,2,3,4,5] [b0,b1,b2,b3,b4,b5]=[b0,b1,b2,b3,b4,b5,r0,r1]:=by
 show [b0.sub _,b1.sub _,b2.sub _,b3.sub _,b4.sub _,b5.sub _,r0,r1]=_
 rw [h0 _ (wG _),h1 _ (wG _),h2 _ (wG _),h3 _ (wG _),h4 _ (wG _),h5 _ (wG _)]
theorem six_merge3 {b0 b1 b2 b3 b4 b5:AObj} (h0:K6 b0) (h1:K6 b1) (h2:K6 b2) (h3:K6 b3) (h4:K6 b4) (h5:K6 b5) (a0 a1 a2 a3 a4 a5 r0 r1 r2:AObj) :
 yX [a0,a1,a2,a3,a4,a5,r0,r1,r2] [0,1,2,3,4,5] [b0,b1,b2,b3,b4,b5]=[b0,b1,b2,b3,b4,b5,r0,r1,r2]:=by
 show [b0.sub _,b1.sub _,b2.sub _,b3.sub _,b4.sub _,b5.sub _,r0,r1,r2]=_
 rw [h0 _ (wG _),h1 _ (wG _),h2 _ (wG _),h3 _ (wG _),h4 _ (wG _),h5 _ (wG _)]
theorem args6 {a b c:AV} {cs:List AV} (ha:a.closed=true) (hb:b.closed=true) (hc:c.closed=true) (h:∀ σ:Nat→Sub,(∀ i,i<6→σ i=.to i)→AV.subL σ cs=cs):[a,b,c]++cs=([a,b,c]++cs).map (AV.sub (ya [0,1,2,3,4,5])):=by
 rw [List.map_append,← AV.subL_eq _ cs,h _ vO]
 show _=[a.sub _,b.sub _,c.sub _]++cs
 rw [zX _ _ a (Nat.le_refl _) ha,zX _ _ b (Nat.le_refl _) hb,zX _ _ c (Nat.le_refl _) hc]
theorem args6b {a b:AV} {cs:List AV} (ha:a.closed=true) (hb:b.closed=true) (h:∀ σ:Nat→Sub,(∀ i,i<6→σ i=.to i)→AV.subL σ cs=cs):[a,b]++cs=([a,b]++cs).map (AV.sub (ya [0,1,2,3,4,5])):=by
 rw [List.map_append,← AV.subL_eq _ cs,h _ vO]
 show _=[a.sub _,b.sub _]++cs
 rw [zX _ _ a (Nat.le_refl _) ha,zX _ _ b (Nat.le_refl _) hb]
theorem K6.int (i:Int):K6 (.cells [int i]):=fun _ _=>rfl
theorem K6.fn {f:FuncId} {cs:List AV} (h:∀ σ:Nat→Sub,(∀ i,i<6→σ i=.to i)→AV.subL σ cs=cs):K6 (.cells [.fn f cs]):=fun σ hs=>by
 show AObj.cells [.fn f (AV.subL σ cs)]=_
 rw [h σ hs]
theorem sub_ptrs {σ:Nat→Sub} (h:∀ i,i<6→σ i=.to i):AV.subL σ [.ptr 0 0,.ptr 1 0,.ptr 2 0]=[.ptr 0 0,.ptr 1 0,.ptr 2 0]:=by
 simp only [AV.subL,AV.sub,h 0 (by decide),h 1 (by decide),h 2 (by decide)]
theorem enters_scope_walk_1 : yr EE.P 139:=enters_of rfl (by decide) T139.2
def hpV {S:Type} (vf:FuncId) (vcs:List AV) (o3 o4 o5:S→AObj) (i:Int) (s:S):zz :=
 [.cells [int i],.cells [.fn vf vcs],.cells [.fn 139 [.ptr 0 0,.ptr 1 0,.ptr 2 0]],o3 s,o4 s,o5 s]
theorem C_each {S:Type} (vf:FuncId) (vcs:List AV) (o3 o4 o5:S→AObj) (V:Int→Pat × Plc→S→S × Bool) (hen:yr EE.P vf)
 (h3:∀ s,K6 (o3 s)) (h4:∀ s,K6 (o4 s)) (h5:∀ s,K6 (o5 s)) (hvc:∀ (σ:Nat→Sub),(∀ i,i<6→σ i=.to i)→AV.subL σ vcs=vcs)
 (hV:∀ (i:Int) (x:Pat × Plc) (s:S),x.1.Sm→x.1.wf→x.2.ok→0≤i→ACall EE vf ([int i,x.1.enc,x.2.enc]++vcs) (hpV vf vcs o3 o4 o5 i s) (fun v H'=>v=bool (V i x s).2∧H'=hpV vf vcs o3 o4 o5 i (V i x s).1)) :
 ∀ p:Pat,p.Sm→p.wf→∀ (l:Plc),l.ok→∀ (i:Int) (s:S),-1≤i→i+p.cnt<1073741824 →
  ACall EE 139 [p.enc,l.enc,.ptr 0 0,.ptr 1 0,.ptr 2 0] (hpV vf vcs o3 o4 o5 i s) (fun v H'=>v=bool (xE V i s (Pat.lf l p)).2.2∧H'=hpV vf vcs o3 o4 o5 (xE V i s (Pat.lf l p)).2.1 (xE V i s (Pat.lf l p)).1):=by
 have k1:K6 (.cells [.fn vf vcs]):=K6.fn hvc
 have k2:K6 (.cells [.fn 139 [.ptr 0 0,.ptr 1 0,.ptr 2 0]]):=K6.fn fun σ h=>sub_ptrs h
 refine Pat.ind ?_
 intro o a t v sc n c ih hs hw l hl i s hi0 hi1
 have hlen:=hs.len
 have hih:=fun q (hq:q∈a)=>ih q hq (hs.arg hq) (hw.arg hq)
 have hwa:∀ q∈a,q.wf:=fun q hq=>hw.arg hq
 have hsa:∀ q∈a,q.Sm:=fun q hq=>hs.arg hq
 obtain ⟨pp,hpp⟩:∃ pp,pp=Pat.mk o a t v sc n c:=⟨_,rfl⟩
 have hv1:=hV (i+1) (pp,l) s (by rw [hpp];exact hs) (by rw [hpp];exact hw) hl (by omega)
 rw [Pat.lf,xE,← hpp]
 rw [Pat.cnt] at hi1
 obtain ⟨s1,hs1⟩:∃ z,z=(V (i+1) (pp,l) s).1:=⟨_,rfl⟩
 obtain ⟨b1,hb1⟩:∃ z,z=(V (i+1) (pp,l) s).2:=⟨_,rfl⟩
 rw [← hs1,← hb1] at hv1 ⊢
 obtain ⟨Z,hZ⟩:∃ Z,Z=(if b1=true then xE V (i+1) s1 (Pat.lfL (decide (o=1)) l a) else (s1,i+1,false)):=⟨_,rfl⟩
 rw [← hZ]
 dsimp only at hv1
 have hpc:=Pat.closed pp
 have hlc:=l.closed
 have hcl:=Pat.closedI a
 have hcc:=Ex.closed c
 have hpe:pp.enc=(Pat.mk o a t v sc n c).enc:=by rw [hpp]
 obtain ⟨cO,cA,cV,cF,cK,cXk,cXn,cXt,hcx⟩:=Ex.form c
 have hpx:=Pat.enc_c o a t v sc n hcx
 simp only [List.cons_append,List.nil_append] at hpx
 rw [hpx] at hpe
 rw [hpe] at hv1 hpc ⊢
 rw [hcx] at hcc
 have hcaI:(AV.isl 8 cA).closed=true:=by have:=hcc;simp [AV.closed,AV.closedL] at this ⊢;exact this
 simp only [Plc.enc] at hv1 hlc ⊢
 have hLU:=zx l.us
 have hLS:=zx l.si
 obtain ⟨LU,eLU⟩:∃ z,z=mapE int l.us:=⟨_,rfl⟩
 obtain ⟨LS,eLS⟩:∃ z,z=mapE int l.si:=⟨_,rfl⟩
 obtain ⟨fb,efb⟩:∃ z,z=l.fb:=⟨_,rfl⟩
 rw [← eLU,← eLS,← efb] at hv1 hlc ⊢
 rw [← eLU] at hLU
 rw [← eLS] at hLS
 unfold hpV at hv1 ⊢
 clear ih hs hw hpx hcx hpe
 refine zr ?_;unhygienic intros
 generalize hes:mapE Pat.enc a=es at *
 have hel:es.length=a.length:=by rw [← hes,zq]
 have ha1:iAdd .i64 i 1=i+1:=ww e_iAdd (by omega) (by omega)
 obtain ⟨i1,ei1⟩:∃ z,z=i+1:=⟨_,rfl⟩
 rw [← ei1] at ha1 hv1 hZ
 have n0:bNot false=true:=by simp only [ee];rfl
 have n1:bNot true=false:=by simp only [ee];rfl
 refine rB T139 [.t 7] ?_
 show Holds EE 45 6 _ _ _ _ _
 have fz:=ha1
 refine Cq ?_
 refine uz [0,1,2,3,4,5] rfl rfl rfl hen hv1 (by decide) (by simp) (six_out (K6.int _) k1 k2 (h3 _) (h4 _) (h5 _) _) (args6 rfl hpc hlc hvc) ?_
 rintro v0 H' ⟨rfl,rfl⟩ -
 rw [six_merge2 (K6.int _) k1 k2 (h3 _) (h4 _) (h5 _)]
 cases b1 with
 | false =>
  rw [if_neg (by decide)] at hZ
  rw [hZ]
  have fz:=n0
  refine Cq ?_
  refine Aq ?_
  refine xi (F2:=[(7,bool false)]) (H2:=[.cells [int i1],.cells [.fn vf vcs],.cells [.fn 139 [.ptr 0 0,.ptr 1 0,.ptr 2 0]],o3 s1,o4 s1,o5 s1]) ?_ rfl ⟨rfl,rfl⟩
  exact (yR [.to 0,.to 1,.to 2,.to 3,.to 4,.to 5,.gone,.gone] [some 0,some 1,some 2,some 3,some 4,some 5] ⟨rfl,rfl,rfl,rfl,rfl,rfl,trivial⟩ (by simp) (by simp) ⟨⟨by simp,rfl⟩,⟨by simp,rfl⟩,⟨by simp,rfl⟩,⟨by simp,rfl⟩,⟨by simp,rfl⟩,⟨by simp,rfl⟩,trivial,trivial,trivial⟩ ⟨.same 0 _ _ rfl rfl rfl (K6.int _ _ (xQ _)),.same 1 _ _ rfl rfl rfl (k1 _ (xQ _)),.same 2 _ _ rfl rfl rfl (k2 _ (xQ _)),.same 3 _ _ rfl rfl rfl (h3 _ _ (xQ _)),.same 4 _ _ rfl rfl rfl (h4 _ _ (xQ _)),.same 5 _ _ rfl rfl rfl (h5 _ _ (xQ _)),trivial⟩ ⟨.refl _,trivial⟩)
 | true =>
 rw [if_pos rfl] at hZ
 have fz:=n1
 refine Cq ?_
 refine Aq ?_
 refine zf (ι:=List Pat × List Pat × Int × Int × S × Plc × List AV × List AV × Int) (fun p=>([(21,int p.2.2.1),(20,int (lenA es)),(19,.isl 14 es),(2,.ptr 0 0),(3,.ptr 1 0),(4,.ptr 2 0),(5,.ptr 6 0),(6,.ptr 7 0)],[.cells [int p.2.2.2.1],.cells [.fn vf vcs],.cells [.fn 139 [.ptr 0 0,.ptr 1 0,.ptr 2 0]],o3 p.2.2.2.2.1,o4 p.2.2.2.2.1,o5 p.2.2.2.2.1,.cells [int o,.isl 14 es,int t,int v,int sc,int n,int cO,.isl 8 cA,int cV,int cF,int cK,int cXk,int cXn,str cXt],.cells [.isl 1 p.2.2.2.2.2.2.1,.isl 1 p.2.2.2.2.2.2.2.1,int p.2.2.2.2.2.2.2.2]])) (fun p=>a=p.1++p.2.1∧p.2.2.1=p.1.length∧p.2.2.2.2.2.1.ok∧0≤p.2.2.2.1∧p.2.2.2.1+Pat.cntL p.2.1<1073741824∧Z=xE V p.2.2.2.1 p.2.2.2.2.1 (Pat.lfL (decide (o=1)) p.2.2.2.2.2.1 p.2.1)∧p.2.2.2.2.2.2.1=mapE int p.2.2.2.2.2.1.us∧p.2.2.2.2.2.2.2.1=mapE int p.2.2.2.2.2.1.si∧p.2.2.2.2.2.2.2.2=p.2.2.2.2.2.1.fb) (fun p=>p.2.1.length) ([],a,0,i1,s1,l,LU,LS,fb) ⟨rfl,rfl,hl,(by show 0≤i1;omega),(by show i1+(Pat.cntL a:Int)<1073741824;omega),hZ,eLU,eLS,efb⟩ ?_ ?_
 · exact (yR [.to 0,.to 1,.to 2,.to 3,.to 4,.to 5,.to 6,.to 7] [some 0,some 1,some 2,some 3,some 4,some 5,some 6,some 7] ⟨rfl,rfl,rfl,rfl,rfl,rfl,trivial⟩ (by simp) (by simp) ⟨⟨by simp,rfl⟩,⟨by simp,rfl⟩,⟨by simp,rfl⟩,⟨by simp,rfl⟩,⟨by simp,rfl⟩,⟨by simp,rfl⟩,⟨by simp,rfl⟩,⟨by simp,rfl⟩,trivial⟩ ⟨.same 0 _ _ rfl rfl rfl (K6.int _ _ (xQ _)),.same 1 _ _ rfl rfl rfl (k1 _ (xQ _)),.same 2 _ _ rfl rfl rfl (k2 _ (xQ _)),.same 3 _ _ rfl rfl rfl (h3 _ _ (xQ _)),.same 4 _ _ rfl rfl rfl (h4 _ _ (xQ _)),.same 5 _ _ rfl rfl rfl (h5 _ _ (xQ _)),ze (b:=6) rfl rfl rfl ⟨.refl _,.cl hcl,.refl _,.refl _,.refl _,.refl _,.refl _,.cl hcaI,.refl _,.refl _,.refl _,.refl _,.refl _,.refl _,trivial⟩,ze (b:=7) rfl rfl rfl ⟨.cl hLU,.cl hLS,.refl _,trivial⟩,trivial⟩ ⟨.refl _,.refl _,.cl hcl,.refl _,.refl _,.refl _,.refl _,.refl _,trivial⟩)
 rintro ⟨d,r,j,i2,s2,l2,LU2,LS2,fb2⟩ ⟨g1,gj,gl,g0,gb,gZ,gU,gS,gf⟩
 dsimp only at g1 gj gl g0 gb gZ gU gS gf ⊢
 have hU2:(AV.isl 1 LU2).closed=true:=by rw [gU];exact zx _
 have hS2:(AV.isl 1 LS2).closed=true:=by rw [gS];exact zx _
 cases r with
 | nil =>
  have L1:=zu g1
  try simp only [List.length] at L1
  have hc:iLt j (lenA es)=false:=yW e_iLt e_lenA (by omega)
  rw [Pat.lfL,xE] at gZ
  rw [gZ]
  have fz:=hc
  refine Cq ?_
  refine Aq ?_
  refine zo ?_
  refine Aq ?_
  refine xi (F2:=[(7,bool true)]) (H2:=[.cells [int i2],.cells [.fn vf vcs],.cells [.fn 139 [.ptr 0 0,.ptr 1 0,.ptr 2 0]],o3 s2,o4 s2,o5 s2]) ?_ rfl ⟨rfl,rfl⟩
  exact (yR [.to 0,.to 1,.to 2,.to 3,.to 4,.to 5,.gone,.gone] [some 0,some 1,some 2,some 3,some 4,some 5] ⟨rfl,rfl,rfl,rfl,rfl,rfl,trivial⟩ (by simp) (by simp) ⟨⟨by simp,rfl⟩,⟨by simp,rfl⟩,⟨by simp,rfl⟩,⟨by simp,rfl⟩,⟨by simp,rfl⟩,⟨by simp,rfl⟩,trivial,trivial,trivial⟩ ⟨.same 0 _ _ rfl rfl rfl (K6.int _ _ (xQ _)),.same 1 _ _ rfl rfl rfl (k1 _ (xQ _)),.same 2 _ _ rfl rfl rfl (k2 _ (xQ _)),.same 3 _ _ rfl rfl rfl (h3 _ _ (xQ _)),.same 4 _ _ rfl rfl rfl (h4 _ _ (xQ _)),.same 5 _ _ rfl rfl rfl (h5 _ _ (xQ _)),trivial⟩ ⟨.refl _,trivial⟩)
 | cons q r =>
  have L1:=zu g1
  try simp only [List.length] at L1
  have hc:iLt j (lenA es)=true:=yY e_iLt e_lenA (by omega)
  have hat:=zP e_atA hes g1 gj
  have hqm:q∈a:=by rw [g1];simp
  have hqw:=hwa q hqm
  have hqs:=hsa q hqm
  rw [Pat.cntL] at gb
  have hq:=hih q hqm l2 gl i2 s2 (by omega) (by omega)
  rw [Pat.lfL,runV_append] at gZ
  have hrl:=runV_len V (Pat.lf l2 q) i2 s2
  rw [Pat.lf_len] at hrl
  obtain ⟨⟨s3,i3,b3⟩,hrun⟩:∃ z:S × Int × Bool,xE V i2 s2 (Pat.lf l2 q)=z:=⟨_,rfl⟩
  rw [hrun] at hq gZ hrl
  dsimp only at hq gZ hrl
  have hqc:=Pat.closed q
  have hj2:iAdd .i64 j 1=((d++[q]).length:Int):=by rw [List.length_append];exact zJ e_iAdd gj (by omega)
  have hl2c:(AV.agg [.isl 1 LU2,.isl 1 LS2,int fb2]).closed=true:=by simp [AV.closed,AV.closedL] at hU2 hS2 ⊢;exact ⟨hU2,hS2⟩
  simp only [Plc.enc] at hq
  rw [← gU,← gS,← gf] at hq
  unfold hpV at hq
  obtain ⟨qO,qA,qT,qV,qS,qN,qCo,qCa,qCv,qCf,qCk,qXk,qXn,qXt,hxq⟩:=Pat.form q
  rw [hxq] at hat hqc hq
  have fz:=And.intro hc hat
  refine Cq ?_
  refine Cr ?_
  refine uz [0,1,2,3,4,5] rfl rfl rfl enters_scope_walk_1 hq (by decide) (by simp) (six_out (K6.int _) k1 k2 (h3 _) (h4 _) (h5 _) _) (args6b hqc hl2c (fun σ h=>sub_ptrs h)) ?_
  rintro v0 H' ⟨rfl,rfl⟩ -
  rw [six_merge3 (K6.int _) k1 k2 (h3 _) (h4 _) (h5 _)]
  cases b3 with
  | false =>
   rw [if_neg (by decide)] at gZ
   rw [gZ]
   have fz:=n0
   refine Cq ?_
   refine Aq ?_
   refine zl ?_
   refine Aq ?_
   refine xi (F2:=[(7,bool false)]) (H2:=[.cells [int i3],.cells [.fn vf vcs],.cells [.fn 139 [.ptr 0 0,.ptr 1 0,.ptr 2 0]],o3 s3,o4 s3,o5 s3]) ?_ rfl ⟨rfl,rfl⟩
   exact (yR [.to 0,.to 1,.to 2,.to 3,.to 4,.to 5,.gone,.gone,.gone] [some 0,some 1,some 2,some 3,some 4,some 5] ⟨rfl,rfl,rfl,rfl,rfl,rfl,trivial⟩ (by simp) (by simp) ⟨⟨by simp,rfl⟩,⟨by simp,rfl⟩,⟨by simp,rfl⟩,⟨by simp,rfl⟩,⟨by simp,rfl⟩,⟨by simp,rfl⟩,trivial,trivial,trivial,trivial⟩ ⟨.same 0 _ _ rfl rfl rfl (K6.int _ _ (xQ _)),.same 1 _ _ rfl rfl rfl (k1 _ (xQ _)),.same 2 _ _ rfl rfl rfl (k2 _ (xQ _)),.same 3 _ _ rfl rfl rfl (h3 _ _ (xQ _)),.same 4 _ _ rfl rfl rfl (h4 _ _ (xQ _)),.same 5 _ _ rfl rfl rfl (h5 _ _ (xQ _)),trivial⟩ ⟨.refl _,trivial⟩)
  | true =>
  rw [if_pos rfl] at gZ
  have hi3:=hrl.2.2 rfl
  by_cases ho1:o=1
  rotate_left
  · have k1o:iEq o 1=false:=by simp only [ee];simpa using ho1
    rw [decide_eq_false ho1] at gZ
    simp only [Bool.false_eq_true,if_false] at gZ
    have fz:=And.intro n1 k1o
    refine Cq ?_
    refine Cr ?_
    refine Cr ?_
    refine zw (d++[q],r,iAdd .i64 j 1,i3,s3,l2,LU2,LS2,fb2) ⟨by simp [g1],hj2,gl,(by show 0≤i3;omega),(by show i3+(Pat.cntL r:Int)<1073741824;omega),(by rw [decide_eq_false ho1];exact gZ),gU,gS,gf⟩ (by simp) (yR [.to 0,.to 1,.to 2,.to 3,.to 4,.to 5,.to 6,.to 7,.gone] [some 0,some 1,some 2,some 3,some 4,some 5,some 6,some 7] ⟨rfl,rfl,rfl,rfl,rfl,rfl,trivial⟩ (by simp) (by simp) ⟨⟨by simp,rfl⟩,⟨by simp,rfl⟩,⟨by simp,rfl⟩,⟨by simp,rfl⟩,⟨by simp,rfl⟩,⟨by simp,rfl⟩,⟨by simp,rfl⟩,⟨by simp,rfl⟩,trivial,trivial⟩ ⟨.same 0 _ _ rfl rfl rfl (K6.int _ _ (xQ _)),.same 1 _ _ rfl rfl rfl (k1 _ (xQ _)),.same 2 _ _ rfl rfl rfl (k2 _ (xQ _)),.same 3 _ _ rfl rfl rfl (h3 _ _ (xQ _)),.same 4 _ _ rfl rfl rfl (h4 _ _ (xQ _)),.same 5 _ _ rfl rfl rfl (h5 _ _ (xQ _)),ze (b:=6) rfl rfl rfl ⟨.refl _,.cl hcl,.refl _,.refl _,.refl _,.refl _,.refl _,.cl hcaI,.refl _,.refl _,.refl _,.refl _,.refl _,.refl _,trivial⟩,ze (b:=7) rfl rfl rfl ⟨.cl hU2,.cl hS2,.refl _,trivial⟩,trivial⟩ ⟨.refl _,.refl _,.cl hcl,.refl _,.refl _,.refl _,.refl _,.refl _,trivial⟩)
  have k1o:iEq o 1=true:=by simp only [ee];simpa using ho1
  rw [decide_eq_true ho1] at gZ
  simp only [if_true] at gZ
  have q1:=P_Bound q hqs
  have q2:=vL l2.us q.bound (by have:=gl.2.2.1;omega) (by have:=wu hqw;omega)
  have q3:=P_ones q hqs hqw
  have q4:=vL l2.si q.ones (by have:=gl.2.2.2;omega) (by have:=wP hqw;omega)
  rw [hxq] at q1 q3
  rw [← gU] at q2
  rw [← gS] at q4
  have r1:=zx q.bound
  have r2:=zx q.ones
  have r3:=zx (zG l2.us q.bound)
  have r4:=zx (zG l2.si q.ones)
  have gU3:mapE int (zG l2.us q.bound)=mapE int (l2.plus q).us:=rfl
  have gS3:mapE int (zG l2.si q.ones)=mapE int (l2.plus q).si:=rfl
  have gf3:(-1:Int)=(l2.plus q).fb:=rfl
  have gl3:=gl.plus hqw
  generalize mapE int q.bound=B1 at *
  generalize mapE int q.ones=B2 at *
  generalize mapE int (zG l2.us q.bound)=U3 at *
  generalize mapE int (zG l2.si q.ones)=S3 at *
  have fz:=And.intro n1 k1o
  refine Cq ?_
  refine Cr ?_
  refine Cr ?_
  refine zb rfl (by conv=>lhs;cbv) rfl ?_
  refine tgA ?_
  refine oPT q1 ?_
  refine oPT q2 ?_
  refine tgA ?_
  refine oPT q3 ?_
  refine oPT q4 ?_
  refine tgA ?_
  refine zW ⟨rfl,?_,?_⟩
  · simp only [za,zZ,List.cons_append,List.nil_append,List.append_nil];and_intros<;>first | trivial | (intro hp;first | rfl | exact absurd (show false=true from hp) Bool.false_ne_true)
  refine Aq ?_
  refine zw (d++[q],r,iAdd .i64 j 1,i3,s3,l2.plus q,U3,S3,-1) ⟨by simp [g1],hj2,gl3,(by show 0≤i3;omega),(by show i3+(Pat.cntL r:Int)<1073741824;omega),(by rw [decide_eq_true ho1];exact gZ),gU3,gS3,gf3⟩ (by simp) (yR [.to 0,.to 1,.to 2,.to 3,.to 4,.to 5,.to 6,.to 7,.gone] [some 0,some 1,some 2,some 3,some 4,some 5,some 6,some 7] ⟨rfl,rfl,rfl,rfl,rfl,rfl,trivial⟩ (by simp) (by simp) ⟨⟨by simp,rfl⟩,⟨by simp,rfl⟩,⟨by simp,rfl⟩,⟨by simp,rfl⟩,⟨by simp,rfl⟩,⟨by simp,rfl⟩,⟨by simp,rfl⟩,⟨by simp,rfl⟩,trivial,trivial⟩ ⟨.same 0 _ _ rfl rfl rfl (K6.int _ _ (xQ _)),.same 1 _ _ rfl rfl rfl (k1 _ (xQ _)),.same 2 _ _ rfl rfl rfl (k2 _ (xQ _)),.same 3 _ _ rfl rfl rfl (h3 _ _ (xQ _)),.same 4 _ _ rfl rfl rfl (h4 _ _ (xQ _)),.same 5 _ _ rfl rfl rfl (h5 _ _ (xQ _)),ze (b:=6) rfl rfl rfl ⟨.refl _,.cl hcl,.refl _,.refl _,.refl _,.refl _,.refl _,.cl hcaI,.refl _,.refl _,.refl _,.refl _,.refl _,.refl _,trivial⟩,ze (b:=7) rfl rfl rfl ⟨.cl r3,.cl r4,.refl _,trivial⟩,trivial⟩ ⟨.refl _,.refl _,.cl hcl,.refl _,.refl _,.refl _,.refl _,.refl _,trivial⟩)
end Go.Am
end
section
set_option maxHeartbeats 16000000
set_option maxRecDepth 100000
namespace Go.Am
open Go.Proofs
def uG (d:List Int):Int ⊕ List Int→Int ⊕ List Int
 | .inl e=>.inl e
 | .inr l=>.inr (d++l)
theorem consK_nil (z:Int ⊕ List Int):uG [] z=z:=by cases z<;>rfl
theorem kindsK_bad {ts:List Sch} {vs:List Vr} {q:Ex} {r:List Ex} {ks:List Int} (h:(Ex.kindK ts vs q).2≠0):uG ks (Ex.kindsK ts vs (q :: r))=.inl (Ex.kindK ts vs q).2:=by
 rw [Ex.kindsK,if_pos h];rfl
theorem kindsK_good {ts:List Sch} {vs:List Vr} {q:Ex} {r:List Ex} {ks:List Int} (h:(Ex.kindK ts vs q).2=0):uG ks (Ex.kindsK ts vs (q :: r))=uG (ks++[(Ex.kindK ts vs q).1]) (Ex.kindsK ts vs r):=by
 rw [Ex.kindsK,if_neg (by simpa using h)]
 cases Ex.kindsK ts vs r with
 | inl e=>rfl
 | inr l=>simp [uG]
theorem kindK_all {ts:List Sch} {vs:List Vr} {o:Int} {a:List Ex} {v f k:Int} {x:Vl} (ha:a≠[]):Ex.kindK ts vs (.mk o a v f k x)=(match Ex.kindsK ts vs a with
 | .inl e=>(0,e)
 | .inr l=>if um o l≠0 then (0,um o l) else if o=5∨o=6 then (0,0) else (1,0)):=by rw [Ex.kindK,if_neg ha];cases Ex.kindsK ts vs a<;>rfl
theorem P_kind (ts:List Sch) (vs:List Vr) (pleaf:∀ e:Ex,0≤e.var→0≤e.fld→PCall EE 133 [.agg [.isl 2 (mapE Sch.enc ts),.isl 2 (mapE Vr.enc vs)],e.enc] (.tup [int (wA ts vs e.op e.var e.fld e.kind e.val.kind).1,int (wA ts vs e.op e.var e.fld e.kind e.val.kind).2]))
 (pops:∀ op l,l.length<1048577→PCall EE 134 [int op,.isl 1 (mapE int l)] (int (um op l))) :
 ∀ e:Ex,e.Sm→(∀ q∈e.nodes,0≤q.var∧0≤q.fld)→PCall EE 90 [.agg [.isl 2 (mapE Sch.enc ts),.isl 2 (mapE Vr.enc vs)],e.enc] (.tup [int (e.kindK ts vs).1,int (e.kindK ts vs).2]):=by
 refine Ex.ind ?_
 intro o a v f k x ih hs hn
 have hlen:=hs.len
 have hih:∀ q∈a,_:=fun q hq=>ih q hq (hs.arg hq) fun q2 hq2=>hn q2 (by
  rw [Ex.nodes]
  obtain ⟨d,r,rfl⟩:=List.append_of_mem hq
  simp [Ex.nodesL_append,Ex.nodesL,hq2])
 have hn0:=hn _ (by rw [Ex.nodes];exact List.mem_cons_self)
 simp only [Ex.var,Ex.fld] at hn0
 have pl:=pleaf (.mk o a v f k x) hn0.1 hn0.2
 have kts:=Sch.closedI ts
 have kvs:=Vr.closedI vs
 have kcl:=Ex.closedI a
 have kpc:=Ex.closed (.mk o a v f k x)
 obtain ⟨R,hR⟩:∃ R,R=Ex.kindK ts vs (.mk o a v f k x):=⟨_,rfl⟩
 rw [← hR]
 obtain ⟨xk,xn,xt⟩:=x
 rw [Ex.enc_mk] at pl kpc ⊢
 dsimp only at pl kpc ⊢
 simp only [Ex.op,Ex.var,Ex.fld,Ex.kind,Ex.val] at pl
 clear ih hs hn pleaf
 obtain ⟨R1,R2⟩:=R
 by_cases ha:a=[]
 · rw [Ex.kindK,if_pos ha] at hR
   dsimp only at hR
   rw [← hR] at pl
   have hel:(mapE Ex.enc a).length=0:=by rw [zq,ha];rfl
   generalize mapE Sch.enc ts=ets at *
   generalize mapE Vr.enc vs=evs at *
   generalize mapE Ex.enc a=es at *
   clear hih pops
   refine zr ?_;unhygienic intros
   have k0:iEq (lenA es) 0=true:=by simp only [ee];simp [hel]
   refine fB T90 [.t 4,.t 5] ?_
   have fz:=k0
   refine Cq ?_
   refine Aq ?_
   refine oPA pl ?_
   refine Aq ?_
   exact fE [.gone,.gone]
 rw [kindK_all ha] at hR
 clear pl
 have hnil:mapE int []=[]:=by rw [zk];rfl
 have hel:(mapE Ex.enc a).length=a.length:=zq ..
 have ha0:a.length≠0:=by simpa using ha
 generalize hes:mapE Ex.enc a=es at *
 refine zr ?_;unhygienic intros
 have k0:iEq (lenA es) 0=false:=by simp only [ee];rw [hel];simpa using ha
 generalize mapE Sch.enc ts=ets at *
 generalize mapE Vr.enc vs=evs at *
 refine fB T90 [.t 4,.t 5] ?_
 have fz:=k0
 refine Cq ?_
 refine Aq ?_
 refine zf (ι:=List Ex × List Ex × Int × Nat × List AV × List Int) (fun p=>([(24,int p.2.2.1),(23,int (lenA es)),(22,.isl 8 es),(6,.sl 2 1 0 p.2.2.2.1),(3,.ptr 1 0),(2,.ptr 0 0)],[.cells [.isl 2 ets,.isl 2 evs],.cells [int o,.isl 8 es,int v,int f,int k,int xk,int xn,str xt],.arr 1 p.2.2.2.2.1])) (fun p=>a=p.1++p.2.1∧p.2.2.1=p.1.length∧p.2.2.2.1=p.2.2.2.2.1.length∧p.2.2.2.2.1=mapE int p.2.2.2.2.2∧p.2.2.2.2.2.length=p.1.length∧Ex.kindsK ts vs a=uG p.2.2.2.2.2 (Ex.kindsK ts vs p.2.1)) (fun p=>p.2.1.length) ([],a,0,0,[],[]) ⟨rfl,rfl,rfl,hnil.symm,rfl,(consK_nil _).symm⟩ ?_ ?_
 · exact (eS [.to 0,.to 1] [some 0,some 1,none])
 rintro ⟨d,r,i,m,w,ks⟩ ⟨g1,gi,gm,gw,gk,gR⟩
 dsimp only at g1 gi gm gw gk gR ⊢
 have hcw:AV.closedL w=true:=by rw [gw];exact zU _
 cases r with
 | nil =>
  have L1:=zu g1
  try simp only [List.length] at L1
  have hc:iLt i (lenA es)=false:=yW e_iLt e_lenA (by omega)
  have po:=pops o ks (by omega)
  rw [Ex.kindsK,uG,List.append_nil] at gR
  rw [gR] at hR
  dsimp only at hR
  rw [← gw] at po
  obtain ⟨oe,hoe⟩:∃ z,z=um o ks:=⟨_,rfl⟩
  rw [← hoe] at po hR
  clear hih pops gR
  by_cases n1:oe=0
  · have q1:iNe oe 0=false:=by simp only [ee];simpa using n1
    rw [if_neg (by omega)] at hR
    by_cases n5:o=5
    · have q2:iEq o 5=true:=by simp only [ee];simpa using n5
      rw [if_pos (by omega)] at hR
      injection hR with hR1 hR2
      rw [hR1,hR2]
      have fz:=And.intro hc (And.intro q1 q2)
      refine Cq ?_
      refine Aq ?_
      refine zo ?_
      refine Aq ?_
      refine yp rfl rfl po rfl ⟨[.gone,.gone,.isl 1 (w)],⟨trivial,trivial,⟨_,rfl,(zp _ hcw).symm⟩,trivial⟩,⟨.refl _,.of (yh rfl (by assumption)),trivial⟩⟩ ?_
      refine Cq ?_
      refine Cr ?_
      refine oC (fun c1=>?_) fun c1=>?_
      ·
       simp [ee] at c1
       refine Aq ?_
       exact fE [.gone,.gone,.gone]
      simp [ee] at c1
    have q2:iEq o 5=false:=by simp only [ee];simpa using n5
    by_cases n6:o=6
    · have q3:iEq o 6=true:=by simp only [ee];simpa using n6
      rw [if_pos (by omega)] at hR
      injection hR with hR1 hR2
      rw [hR1,hR2]
      have fz:=And.intro hc (And.intro q1 (And.intro q2 q3))
      refine Cq ?_
      refine Aq ?_
      refine zo ?_
      refine Aq ?_
      refine yp rfl rfl po rfl ⟨[.gone,.gone,.isl 1 (w)],⟨trivial,trivial,⟨_,rfl,(zp _ hcw).symm⟩,trivial⟩,⟨.refl _,.of (yh rfl (by assumption)),trivial⟩⟩ ?_
      refine Cq ?_
      refine Cr ?_
      refine oC (fun c1=>?_) fun c1=>?_
      ·
       simp [ee] at c1
       refine Aq ?_
       exact fE [.gone,.gone,.gone]
      simp [ee] at c1
    have q3:iEq o 6=false:=by simp only [ee];simpa using n6
    rw [if_neg (by omega)] at hR
    injection hR with hR1 hR2
    rw [hR1,hR2]
    have fz:=And.intro hc (And.intro q1 (And.intro q2 q3))
    refine Cq ?_
    refine Aq ?_
    refine zo ?_
    refine Aq ?_
    refine yp rfl rfl po rfl ⟨[.gone,.gone,.isl 1 (w)],⟨trivial,trivial,⟨_,rfl,(zp _ hcw).symm⟩,trivial⟩,⟨.refl _,.of (yh rfl (by assumption)),trivial⟩⟩ ?_
    refine Cq ?_
    refine Cr ?_
    refine oC (fun c1=>?_) fun c1=>?_
    ·
     simp [ee] at c1
    simp [ee] at c1
    refine Aq ?_
    exact fE [.gone,.gone,.gone]
  have q1:iNe oe 0=true:=by simp only [ee];simpa using n1
  rw [if_pos (by omega)] at hR
  injection hR with hR1 hR2
  rw [hR1,hR2]
  have fz:=And.intro hc q1
  refine Cq ?_
  refine Aq ?_
  refine zo ?_
  refine Aq ?_
  refine yp rfl rfl po rfl ⟨[.gone,.gone,.isl 1 (w)],⟨trivial,trivial,⟨_,rfl,(zp _ hcw).symm⟩,trivial⟩,⟨.refl _,.of (yh rfl (by assumption)),trivial⟩⟩ ?_
  refine Cq ?_
  refine Aq ?_
  exact fE [.gone,.gone,.gone]
 | cons q r =>
  have L1:=zu g1
  try simp only [List.length] at L1
  have hc:iLt i (lenA es)=true:=yY e_iLt e_lenA (by omega)
  have hat:=zP e_atA hes g1 gi
  have hq:=hih q (by rw [g1];simp)
  have hqc:=Ex.closed q
  obtain ⟨qO,qA,qV,qF,qK,qXk,qXn,qXt,hx⟩:=Ex.form q
  rw [hx] at hat hqc hq
  have hi2:iAdd .i64 i 1=((d++[q]).length:Int):=by rw [List.length_append];exact zJ e_iAdd gi (by omega)
  obtain ⟨qk,qe⟩:∃ z,z=Ex.kindK ts vs q:=⟨_,rfl⟩
  clear hih pops
  by_cases n1:(Ex.kindK ts vs q).2=0
  · rw [kindsK_good n1] at gR
    have hw2:catA (dropA w 0) (partA [int (Ex.kindK ts vs q).1] 0 1)=mapE int (ks++[(Ex.kindK ts vs q).1]):=by simp only [ee];rw [gw,zk,zk];simp
    have hcw2:AV.closedL (catA (dropA w 0) (partA [int (Ex.kindK ts vs q).1] 0 1))=true:=by rw [hw2];exact zU _
    have hm2:addN m (lenN (partA [int (Ex.kindK ts vs q).1] 0 1))=(catA (dropA w 0) (partA [int (Ex.kindK ts vs q).1] 0 1)).length:=by simp only [ee];simp [gm]
    have hk2:(ks++[(Ex.kindK ts vs q).1]).length=(d++[q]).length:=by simp [gk]
    have hmb:m<1048577:=by rw [gm,gw,zq];omega
    rw [n1] at hq
    generalize (Ex.kindK ts vs q).1=z1 at *
    have q1:iNe 0 0=false:=by simp only [ee];rfl
    clear hR
    have fz:=And.intro hc (And.intro hat q1)
    refine Cq ?_
    refine Cr ?_
    refine oPA hq ?_
    refine Cq ?_
    refine Aq ?_
    refine zw (d++[q],r,iAdd .i64 i 1,addN m (lenN (partA [int z1] 0 1)),catA (dropA w 0) (partA [int z1] 0 1),ks++[z1]) ⟨by simp [g1],hi2,hm2,hw2,hk2,gR⟩ (by simp) (eS [.to 0,.to 1,.gone,.gone,.gone,.to 2] [some 0,some 1,some 5])
  rw [kindsK_bad n1] at gR
  rw [gR] at hR
  dsimp only at hR
  injection hR with hR1 hR2
  rw [hR1,hR2]
  have q1:iNe (Ex.kindK ts vs q).2 0=true:=by simp only [ee];simpa using n1
  generalize (Ex.kindK ts vs q).1=z1 at *
  generalize (Ex.kindK ts vs q).2=z2 at *
  have fz:=And.intro hc (And.intro hat q1)
  refine Cq ?_
  refine Cr ?_
  refine oPA hq ?_
  refine Cq ?_
  refine Aq ?_
  refine zl ?_
  refine Aq ?_
  exact fE [.gone,.gone,.gone,.gone]
end Go.Am
end
section
set_option maxHeartbeats 16000000
set_option maxRecDepth 100000
namespace Go.Proofs
open Go.Shelf
def Tryz.lays144_ren : Go.Shelf.Ren:=⟨fun | 144=>151 | 143=>172 | 219=>192 | 217=>200 | 225=>201 | 224=>202 | 267=>203 | 266=>205 | 314=>206 | n=>n,fun | 9=>9 | 4=>4 | 3=>3 | 5=>5 | 46=>181 | 146=>210 | 51=>197 | n=>n,fun | 1=>2 | n=>n⟩
theorem Tryz.lays144 : Go.Proofs.Lays.n144 Tryz.prog Tryz.lays144_ren:={
 mixed:=by kernel_rfl
 f143:=Tryz.func172.trans (congrArg some (by kernel_rfl))
 f144:=Tryz.func151.trans (congrArg some (by kernel_rfl))
 f217:=Tryz.func200.trans (congrArg some (by kernel_rfl))
 f219:=Tryz.func192.trans (congrArg some (by kernel_rfl))
 f224:=Tryz.func202.trans (congrArg some (by kernel_rfl))
 f225:=Tryz.func201.trans (congrArg some (by kernel_rfl))
 f266:=Tryz.func205.trans (congrArg some (by kernel_rfl))
 f267:=Tryz.func203.trans (congrArg some (by kernel_rfl))
 f314:=Tryz.func206.trans (congrArg some (by kernel_rfl))
 t3:=Tryz.underlying3
 a3:=Tryz.isAgg3
 z3:=Tryz.sizeOf3
 v3:=Tryz.zeroValue3
 t4:=Tryz.underlying4
 a4:=Tryz.isAgg4
 z4:=Tryz.sizeOf4
 v4:=Tryz.zeroValue4
 t5:=Tryz.underlying5
 a5:=Tryz.isAgg5
 z5:=Tryz.sizeOf5
 v5:=Tryz.zeroValue5
 t9:=Tryz.underlying9
 a9:=Tryz.isAgg9
 z9:=Tryz.sizeOf9
 v9:=Tryz.zeroValue9
 t46:=Tryz.underlying181
 a46:=Tryz.isAgg181
 z46:=Tryz.sizeOf181
 v46:=Tryz.zeroValue181
 t51:=Tryz.underlying197
 a51:=Tryz.isAgg197
 z51:=Tryz.sizeOf197
 v51:=Tryz.zeroValue197
 t146:=Tryz.underlying210
 a146:=Tryz.isAgg210
 z146:=Tryz.sizeOf210
 v146:=Tryz.zeroValue210
 g1:=by kernel_rfl }
end Go.Proofs
namespace Go.Am
open Go.Proofs
noncomputable def EL : Env:=⟨Tryz.prog,fun n=>cond (Nat.beq n 2) (.iptr [.intq]) (EE.G n)⟩
theorem PCall.toL {f:FuncId} {args:List AV} {v:AV} (h:PCall EE f args v):PCall EL f args v:=by
 refine ⟨h.1,fun K w ys hh hv=>?_⟩
 have hh2:HRep EE K w []:=⟨by simp,by simp,hh.disj,hh.low,fun g=>by
  have hg:=hh.glob g
  revert hg
  show VRep K 0 w (cond (Nat.beq g 2) _ (EE.G g)) _→VRep K 0 w (EE.G g) _
  cases hb:Nat.beq g 2 with
  | true =>
   obtain rfl:=Nat.eq_of_beq_eq_true hb
   exact fun _=>.undef _
  | false=>exact fun h=>h⟩
 refine (h.2 K w ys hh2 hv).mono ?_
 rintro e w' ⟨v',y,H',K',h1,⟨h2,rfl⟩,h3,h4,h5⟩
 have hm:=h5.mv hh2
 exact ⟨v',y,[],K',h1,⟨h2,rfl⟩,⟨by simp,by simp,h3.disj,h3.low,fun g=>VRep.mono (K:=K) (K':=K') (fun b hb=>absurd hb (Nat.not_lt_zero _)) (Nat.le_refl _) h5.I hm.wc hm.cells (hh.glob g)⟩,h4,h5⟩
theorem enters_strings_Contains : yr EE.P 151:=enters_of rfl (by decide) T151.2
theorem P_strContains (s sub:Bs) (hs:s.length<4294967281):PCall EL 151 [str (ba s),str (ba sub)] (bool (Lib.contains s sub)):=by
 refine ⟨enters_strings_Contains,?_⟩
 intro K w ys hh hv
 obtain rfl:=vals_rep (vs:=[.string (ba s),.string (ba sub)]) hv.1 hv.2
 obtain ⟨m,hm⟩:∃ m:Int,w.cell? ⟨2,0,none⟩=some (.int .i64 m):=by
  have hg:VRep K 0 w (.iptr [.intq]) (.pointer (some ⟨2,0,none⟩)):=hh.glob 2
  cases hg with
  | iptr cs f blk off hI hc h =>
   have h1:=h 0 _ rfl
   have h2:=hc 0 _ rfl
   generalize f 0=z at *
   cases h1 with
   | intq n=>exact ⟨n,h2⟩
 have h:=Any.strings_Contains Tryz.lays144 (ba s) (ba sub) m w (by rw [wU];omega) hm
 rw [ur,ur] at h
 refine h.mono ?_
 rintro e w' ⟨rfl,rfl⟩
 have hd:=hh.drewN 0
 exact ⟨_,_,_,K,rfl,⟨rfl,rfl⟩,hd.1,.val _ (fun _ h=>by cases h),hd.2⟩
end Go.Am
end
section
set_option maxHeartbeats 16000000
set_option maxRecDepth 100000
namespace Go.Am
open Go.Proofs
theorem P_lxletter (n:Int):PCall EE 118 [u8 n] (bool (yU n)):=by
 obtain ⟨b,hb⟩:∃ b,b=yU n:=⟨_,rfl⟩
 rw [← hb]
 simp only [yU] at hb
 refine zr ?_;unhygienic intros
 refine fB T118 [.t 2] ?_
 refine goA 0 ?_
 refine nsB hX (by conv=>lhs;cbv) ?_
 refine goA 0 ?_
 refine nsB hX (by conv=>lhs;cbv) ?_
 refine Aq ?_
 refine zR rfl rfl (.val ?_)
 (clear hX;subst hb;exact congrArg Value.bool (by simp only [ee] at *;grind))
theorem P_r6Letter (n:Int):PCall EE 119 [u8 n] (bool (yU n)):=by
 obtain ⟨b,hb⟩:∃ b,b=yU n:=⟨_,rfl⟩
 rw [← hb]
 simp only [yU] at hb
 refine zr ?_;unhygienic intros
 refine fB T119 [.t 2] ?_
 refine goA 0 ?_
 refine nsB hX (by conv=>lhs;cbv) ?_
 refine goA 0 ?_
 refine nsB hX (by conv=>lhs;cbv) ?_
 refine Aq ?_
 refine zR rfl rfl (.val ?_)
 (clear hX;subst hb;exact congrArg Value.bool (by simp only [ee] at *;grind))
theorem P_lxdigit (n:Int):PCall EE 114 [u8 n] (bool (yC n)):=by
 obtain ⟨b,hb⟩:∃ b,b=yC n:=⟨_,rfl⟩
 rw [← hb]
 simp only [yC] at hb
 refine zr ?_;unhygienic intros
 refine fB T114 [.t 2] ?_
 refine Aq ?_
 refine zR rfl rfl (.val ?_)
 (clear hX;subst hb;exact congrArg Value.bool (by simp only [ee] at *;grind))
theorem P_r6Digit (n:Int):PCall EE 153 [u8 n] (bool (yC n)):=by
 obtain ⟨b,hb⟩:∃ b,b=yC n:=⟨_,rfl⟩
 rw [← hb]
 simp only [yC] at hb
 refine zr ?_;unhygienic intros
 refine fB T153 [.t 2] ?_
 refine Aq ?_
 refine zR rfl rfl (.val ?_)
 (clear hX;subst hb;exact congrArg Value.bool (by simp only [ee] at *;grind))
theorem P_lxName1 (n:Int):PCall EE 117 [u8 n] (bool (!(yU n || yC n))):=by
 have p1:=P_lxletter n
 have p2:=P_lxdigit n
 generalize yU n=bl at *
 generalize yC n=bd at *
 refine zr ?_;unhygienic intros
 have n0:bNot false=true:=by simp only [ee];rfl
 have n1:bNot true=false:=by simp only [ee];rfl
 refine fB T117 [.t 2] ?_
 cases bl with
 | true =>
  refine Aq ?_
  refine oPA p1 ?_
  have fz:=And.intro n0 n1
  refine Cq ?_
  refine Aq ?_
  refine zi rfl rfl ?_
  refine Aq ?_
  exact fV
 | false =>
  cases bd with
  | true =>
   refine Aq ?_
   refine oPA p1 ?_
   have fz:=And.intro n0 n1
   refine Cq ?_
   refine Aq ?_
   refine oPG p2 ?_
   refine Aq ?_
   exact fBo (h:=by simp only [ee];rfl)
  | false =>
   refine Aq ?_
   refine oPA p1 ?_
   have fz:=And.intro n0 n1
   refine Cq ?_
   refine Aq ?_
   refine oPG p2 ?_
   refine Aq ?_
   exact fBo (h:=by simp only [ee];rfl)
def u8A (n:Int):AV:=.val (.int .u8 n)
theorem closedI_u8 (l:List Int):(AV.isl 1 (mapE u8A l)).closed=true:=by
 have:AV.closedL (mapE u8A l)=true:=xZ (fun _=>rfl) l
 simp [AV.closed,this]
theorem P_IndexFuncB (g:FuncId) (cs:List AV) (hcs:AV.closedL cs=true) (f:Int→Bool) (l:List Int) (hl:l.length<1048577) (hg:∀ x∈l,PCall EE g ([u8 x]++cs) (bool (f x))):PCall EE 152 [.isl 1 (mapE u8A l),.fn g cs] (int (tj f l 0)):=by
 obtain ⟨j,hj⟩:∃ j,j=tj f l 0:=⟨_,rfl⟩
 rw [← hj]
 have hcl:=closedI_u8 l
 have hfn:(AV.fn g cs).closed=true:=by simp [AV.closed,hcs]
 refine zr ?_;unhygienic intros
 generalize hes:mapE u8A l=es at *
 have hel:es.length=l.length:=by rw [← hes,zq]
 refine fB T152 [.t 4] ?_
 refine Aq ?_
 refine zf (ι:=List Int × List Int × Int) (fun p=>([(8,int p.2.2),(7,int (lenA es)),(0,.isl 1 es),(1,.fn g cs)],[])) (fun p=>l=p.1++p.2.1∧p.2.2=p.1.length∧j=tj f p.2.1 p.2.2) (fun p=>p.2.1.length) ([],l,0) ⟨rfl,rfl,hj⟩ ?_ ?_
 · exact (eS [] [])
 rintro ⟨d,r,i⟩ ⟨g1,gi,gv⟩
 dsimp only at g1 gi gv ⊢
 cases r with
 | nil =>
  have L1:=zu g1
  try simp only [List.length] at L1
  have hc:iLt i (lenA es)=false:=yW e_iLt e_lenA (by omega)
  rw [tj] at gv
  have fz:=hc
  refine Cq ?_
  refine Aq ?_
  refine zo ?_
  refine Aq ?_
  exact fI (h:=gv.symm)
 | cons q r =>
  have L1:=zu g1
  try simp only [List.length] at L1
  have hc:iLt i (lenA es)=true:=yY e_iLt e_lenA (by omega)
  have hat:=zP e_atA hes g1 gi
  have hq:=hg q (by rw [g1];simp)
  have hi2:iAdd .i64 i 1=((d++[q]).length:Int):=by rw [List.length_append];exact zJ e_iAdd gi (by omega)
  rw [tj] at gv
  have hat:atA es i=u8 q:=hat
  cases hfq:f q with
  | true =>
   rw [hfq] at hq gv
   rw [if_pos rfl] at gv
   have fz:=And.intro hc hat
   refine Cq ?_
   refine Cr ?_
   refine xz (args:=[u8 q]++cs) rfl rfl rfl rfl hq (by simp [AV.closedL,xb,hcs]) ?_
   refine Cq ?_
   refine Aq ?_
   refine zl ?_
   refine Aq ?_
   exact fI (h:=gv.symm)
  | false =>
   rw [hfq] at hq gv
   rw [if_neg (by decide)] at gv
   have gv2:j=tj f r (iAdd .i64 i 1):=by rw [gv,hi2,gi];simp
   have fz:=And.intro hc hat
   refine Cq ?_
   refine Cr ?_
   refine xz (args:=[u8 q]++cs) rfl rfl rfl rfl hq (by simp [AV.closedL,xb,hcs]) ?_
   refine Cq ?_
   refine Aq ?_
   refine zw (d++[q],r,iAdd .i64 i 1) ⟨by simp [g1],hi2,gv2⟩ (by simp) (eS [] [])
theorem P_ContainsFuncB (g:FuncId) (cs:List AV) (hcs:AV.closedL cs=true) (f:Int→Bool) (l:List Int) (hl:l.length<1048577) (hg:∀ x∈l,PCall EE g ([u8 x]++cs) (bool (f x))):PCall EE 116 [.isl 1 (mapE u8A l),.fn g cs] (bool (l.any f)):=by
 have h1:=P_IndexFuncB g cs hcs f l hl hg
 have hj:=idxW_any f l 0 (by omega)
 generalize tj f l 0=j at *
 have hcl:=closedI_u8 l
 have hfn:(AV.fn g cs).closed=true:=by simp [AV.closed,hcs]
 obtain ⟨R,hR⟩:∃ R,R=l.any f:=⟨_,rfl⟩
 rw [← hR] at hj ⊢
 refine zr ?_;unhygienic intros
 generalize mapE u8A l=es at *
 refine fB T116 [.t 4] ?_
 have hRe:iLe 0 j=R:=by simp only [ee];rw [Bool.eq_iff_iff];simp [hj]
 refine Aq ?_
 refine oPA h1 ?_
 refine Aq ?_
 exact fBo (h:=hRe)
end Go.Am
end
