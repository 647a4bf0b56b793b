/- Contracts of the program's functions. -/
import Derived.Test.YtpdmaimjllhooaaGreatDoorProg
import Derived.Test.YtpdmaimjllhooaaGreatDoorRCt5
import Derived.Test.YtpdmaimjllhooaaGreatDoorRCt6
import Derived.Test.YtpdmaimjllhooaaGreatDoorCards
import Derived.Test.YtpdmaimjllhooaaGreatDoorRows
import Derived.Test.YtpdmaimjllhooaaGreatDoorTie
section
set_option maxHeartbeats 16000000
set_option maxRecDepth 100000
namespace Go.Am
open Go.Proofs
theorem we {p:Pat} (h:p.wholeE=0):p.chkR=0∧(∀ q∈p.nodes,q.nodeE=0)∧∀ q∈p.nodes,q.op<8:=by
 unfold Pat.wholeE at h
 by_cases h1:p.chkR=0
 · rw [if_neg (by simpa using h1)] at h
   have fe:∀ {F:Pat→Int} {l:List Pat},zm F l=0→∀ q∈l,F q=0:=by
    intro F l
    induction l with
    | nil=>intro _ q hq;cases hq
    | cons x r ih =>
     intro hf q hq
     rw [zm] at hf
     by_cases hx:F x=0
     · rw [if_neg (by simpa using hx)] at hf
       rcases List.mem_cons.1 hq with rfl | hq
       · exact hx
       exact ih hf q hq
     rw [if_pos hx] at hf;exact absurd hf hx
   refine ⟨h1,?_,fun q hq=>?_⟩
   · unfold Pat.chkR at h1
     split at h1
     · cases h1
     split at h1
     · cases h1
     exact fe h1
   have:=fe h q hq
   by_cases h8:8≤q.op
   · simp [h8] at this
   omega
 rw [if_pos h1] at h;exact absurd h h1
theorem nodeE_op {q:Pat} (h:q.nodeE=0):0≤q.op∧q.op<11:=by
 unfold Pat.nodeE at h
 by_cases h1:q.op<0∨11≤q.op
 · rw [if_pos h1] at h;cases h
 omega
noncomputable def Pat.chk (p:Pat):Int:=if p.wholeE≠0 then p.wholeE else if (zC p.nodes).2.2=true then 0 else 14
theorem P_pattern_Check (p:Pat) (hs:p.Sm):PCall EE 27 [p.enc] (int p.chk):=by
 have h1:=P_whole p hs
 have h2:=fun h:p.wholeE=0=>P_count p hs fun q hq=>nodeE_op ((we h).2.1 q hq)
 have hcl:=Pat.closed p
 obtain ⟨R,hR⟩:∃ R,R=p.chk:=⟨_,rfl⟩
 rw [← hR]
 unfold Pat.chk at hR
 generalize p.wholeE=rn at *
 generalize (zC p.nodes).1=c1 at *
 generalize (zC p.nodes).2.1=c2 at *
 generalize (zC p.nodes).2.2=c3 at *
 obtain ⟨pO,pA,pT,pV,pS,pN,pCo,pCa,pCv,pCf,pCk,pXk,pXn,pXt,hx⟩:=Pat.form p
 rw [hx] at h1 h2 hcl ⊢
 refine zr ?_;unhygienic intros
 refine fB T27 [.t 2] ?_
 by_cases g1:rn=0
 rotate_left
 · have k1:iNe rn 0=true:=by simp only [ee];simpa using g1
   rw [if_pos g1] at hR
   refine Aq ?_
   refine oPA h1 ?_
   have fz:=k1
   refine Cq ?_
   refine Aq ?_
   exact fI (h:=hR.symm)
 have k1:iNe rn 0=false:=by simp only [ee];simpa using g1
 have h2:=h2 g1
 rw [if_neg (by simpa using g1)] at hR
 cases c3 with
 | true =>
  have k2:bNot true=false:=by simp only [ee];rfl
  refine Aq ?_
  refine oPA h1 ?_
  have fz:=And.intro k1 k2
  refine Cq ?_
  refine Aq ?_
  refine oPA h2 ?_
  refine Cq ?_
  refine Aq ?_
  exact fI (h:=hR.symm)
 | false =>
  have k2:bNot false=true:=by simp only [ee];rfl
  refine Aq ?_
  refine oPA h1 ?_
  have fz:=And.intro k1 k2
  refine Cq ?_
  refine Aq ?_
  refine oPA h2 ?_
  refine Cq ?_
  refine Aq ?_
  exact fI (h:=hR.symm)
def Pat0 : Pat:=.mk 0 [] 0 0 0 0 Ex0
theorem Pat0.enc_eq : Pat0.enc=.agg [int 0,.isl 14 [],int 0,int 0,int 0,int 0,int 0,.isl 8 [],int 0,int 0,int 0,int 0,int 0,str ⟨#[]⟩]:=by
 rw [Pat0,Ex0,Pat.enc_mk,zk,zk];rfl
def Pat.nodeAt (p:Pat) (i:Int):Pat:=if 0≤i∧i<p.nodes.length then p.nodes.getD i.toNat Pat0 else Pat0
def Pat.nodeEr (p:Pat) (i:Int):Int:=if 0≤i∧i<p.nodes.length then 0 else 6
theorem P_ref09_Node (p:Pat) (i:Int) (hs:p.Sm):PCall EE 143 [p.enc,int i] (.tup [(p.nodeAt i).enc,int (p.nodeEr i)]):=by
 have h1:=yG p hs
 have hcl:=Pat.closed p
 have hcnt:=Pat.nodes_len p
 have hs1:=hs.1
 obtain ⟨R,hR⟩:∃ R,R=p.nodeAt i:=⟨_,rfl⟩
 obtain ⟨R2,hR2⟩:∃ R,R=p.nodeEr i:=⟨_,rfl⟩
 rw [← hR,← hR2]
 unfold Pat.nodeAt at hR
 unfold Pat.nodeEr at hR2
 have hcn:=Pat.closedI p.nodes
 obtain ⟨pO,pA,pT,pV,pS,pN,pCo,pCa,pCv,pCf,pCk,pXk,pXn,pXt,hx⟩:=Pat.form p
 rw [hx] at h1 hcl ⊢
 refine zr ?_;unhygienic intros
 generalize p.nodes=nl at *
 generalize hes:mapE Pat.enc nl=es at *
 have hel:es.length=nl.length:=by rw [← hes,zq]
 refine fB T143 [.cell 4 14 true,.t 5] ?_
 by_cases hi:0≤i∧i<nl.length
 · rw [if_pos hi] at hR hR2
   have hat:atA es i=(nl.getD i.toNat Pat0).enc:=by
    simp only [ee]
    rw [← hes,zk,List.getD_eq_getElem?_getD,List.getElem?_map,List.getD_eq_getElem?_getD,List.getElem?_eq_getElem (by omega)];rfl
   rw [← hR] at hat
   have hk:bOr (iLt i 0) (iLe (lenA es) i)=false:=by simp only [ee];simp;omega
   have hRc:=Pat.closed R
   obtain ⟨RO,RA,RT,RV,RS,RN,RCo,RCa,RCv,RCf,RCk,RXk,RXn,RXt,hx2⟩:=Pat.form R
   rw [hx2] at hat hRc ⊢
   rw [hR2]
   refine Aq ?_
   refine oPA h1 ?_
   have fz:=And.intro hk hat
   refine Cq ?_
   refine Cr ?_
   refine zR rfl rfl ?_
   exact ⟨[.gone,.gone],⟨trivial,trivial,trivial⟩,.tup' ⟨.cl hRc,.refl _,trivial⟩⟩
 rw [if_neg hi] at hR hR2
 have hk:bOr (iLt i 0) (iLe (lenA es) i)=true:=by simp only [ee];simp;omega
 rw [hR,hR2,Pat0.enc_eq]
 refine Aq ?_
 refine oPA h1 ?_
 have fz:=hk
 refine Cq ?_
 refine Aq ?_
 refine zR rfl rfl ?_
 exact ⟨[.gone,.gone],⟨trivial,trivial,trivial⟩,.tup' ⟨.agg' ⟨.refl _,.nilI _,.refl _,.refl _,.refl _,.refl _,.refl _,.nilI _,.refl _,.refl _,.refl _,.refl _,.refl _,.refl _,trivial⟩,.refl _,trivial⟩⟩
theorem comp_split (zs:List Int):∀ m,m≤zs.length→zs.Pairwise (·≤·) →
 (Lib.compactUpTo zs.toArray m).Pairwise (· < ·)∧(∀ n,n∈Lib.compactUpTo zs.toArray m↔n∈zs.take m):=by
 intro m
 induction m with
 | zero=>intro _ _;simp [Lib.compactUpTo]
 | succ m ih =>
  intro hm hp
  obtain ⟨i1,i2⟩:=ih (by omega) hp
  have hz:zs.toArray[m]! = zs[m]:=by simp [getElem!_pos,show m<zs.length by omega]
  have htk:zs.take (m+1)=zs.take m++[zs[m]]:=by rw [List.take_succ_eq_append_getElem (by omega)]
  rw [Lib.compactUpTo_succ,hz]
  have hle:∀ n∈zs.take m,n≤zs[m]:=by
   intro n hn
   obtain ⟨j,hj,rfl⟩:=List.mem_iff_getElem.1 hn
   have hj':j<m:=by simp at hj;omega
   rw [List.getElem_take]
   exact (List.pairwise_iff_getElem.1 hp) j m (by omega) (by omega) hj'
  by_cases hk:Lib.keeps zs.toArray m=true
  · rw [if_pos hk]
    constructor
    · rw [List.pairwise_append]
      refine ⟨i1,by simp,fun x hx y hy=>?_⟩
      simp at hy;subst hy
      have hx':=(i2 x).1 hx
      have h1:=hle x hx'
      by_cases hm0:m=0
      · subst hm0;simp at hx'
      have hne:zs[m]≠zs[m - 1]:=by
       intro he
       have:Lib.keeps zs.toArray m=false:=Lib.keeps_neg (by omega) (by
        rw [hz];simp [getElem!_pos,show m - 1<zs.length by omega];exact he)
       rw [hk] at this;cases this
      have h2:x≤zs[m - 1]:=by
       obtain ⟨j,hj,rfl⟩:=List.mem_iff_getElem.1 hx'
       have hj':j<m:=by simp at hj;omega
       rw [List.getElem_take]
       by_cases hjm:j=m - 1
       · subst hjm;exact Int.le_refl _
       exact (List.pairwise_iff_getElem.1 hp) j (m - 1) (by omega) (by omega) (by omega)
      have h3:=(List.pairwise_iff_getElem.1 hp) (m - 1) m (by omega) (by omega) (by omega)
      omega
    intro n
    rw [htk,List.mem_append,List.mem_append,i2]
  rw [if_neg hk,List.append_nil]
  refine ⟨i1,fun n=>?_⟩
  rw [htk,List.mem_append,i2,List.mem_singleton]
  refine ⟨.inl,?_⟩
  rintro (h | rfl)
  · exact h
  have hm0:m≠0:=by rintro rfl;exact hk (Lib.keeps_lt_one _ 0 (by omega))
  have he:zs[m]=zs[m - 1]:=by
   by_cases he:zs[m]=zs[m - 1]
   · exact he
   exact absurd (Lib.keeps_pos (d:=zs.toArray) (m:=m) (by rw [hz];simp [getElem!_pos,show m - 1<zs.length by omega];exact he)) hk
  rw [he]
  exact List.mem_take_iff_getElem.2 ⟨m - 1,by omega,rfl⟩
theorem comp_ok (zs:List Int) (hp:zs.Pairwise (·≤·)):(Lib.compact zs).Pairwise (· < ·)∧∀ n,n∈Lib.compact zs↔n∈zs:=by
 have:=comp_split zs zs.length (Nat.le_refl _) hp
 rw [List.take_length] at this
 exact this
theorem sort_sorted (l:List Int):(yH l).Pairwise (·≤·):=by
 have:=List.pairwise_mergeSort (le:=fun x y:Int=>decide (x≤y)) (fun a b c h1 h2=>by simp at *;omega) (fun a b=>by simp;omega) l
 exact this.imp (by intro a b h;simpa using h)
theorem sort_mem (l:List Int) (n:Int):n∈yH l↔n∈l:=by simp [yH,List.mem_mergeSort]
theorem Pat.bound_mem {p:Pat} (n:Int):n∈p.bound↔n∈xP p.nodes:=by
 rw [Pat.bound,(comp_ok _ (sort_sorted _)).2,sort_mem]
theorem Pat.bound_nodup (p:Pat):p.bound.Pairwise (· < ·):=(comp_ok _ (sort_sorted _)).1
theorem vm {p:Pat} (h:p.chk=0):p.wholeE=0∧(zC p.nodes).2.2=true:=by
 unfold Pat.chk at h
 split at h
 · exact absurd h (by assumption)
 rename_i h1
 split at h
 · exact ⟨by simpa using h1,by assumption⟩
 cases h
theorem cfold_pre (a b:List Pat) (h:(zC (a++b)).2.2=true):(zC a).2.2=true:=by
 unfold zC at *
 rw [List.foldl_append] at h
 generalize a.foldl wB (0,0,true)=s at *
 induction b generalizing s with
 | nil=>exact h
 | cons q r ih =>
  have:=ih _ h
  simp only [wB,Bool.and_eq_true] at this
  exact this.1.1
theorem bndF_cons (q:Pat) (r:List Pat):xP (q :: r)=(if q.op=0 then [q.var] else [])++xP r:=by
 unfold xP;rw [List.filter_cons];by_cases h:q.op=0<;>simp [h]
theorem cnt_node : ∀ p:Pat,∀ q∈p.nodes,q.cnt≤p.cnt∧q.dep≤p.dep∧(∀ x∈q.nodes,x∈p.nodes):=by
 refine Pat.ind fun o a t v s n c ih q hq=>?_
 rw [Pat.nodes,List.mem_cons] at hq
 rcases hq with rfl | hq
 · exact ⟨Nat.le_refl _,Nat.le_refl _,fun x hx=>hx⟩
 obtain ⟨e,he,hqe⟩:=Pat.mem_nodesL hq
 obtain ⟨h1,h2,h3⟩:=ih e he q hqe
 have h4:=Pat.cnt_mem he
 have h5:e.dep≤Pat.depL 0 a:=by
  have:∀ (l:List Pat) (d:Nat),d≤Pat.depL d l∧∀ e∈l,e.dep≤Pat.depL d l:=by
   intro l
   induction l with
   | nil=>intro d;simp [Pat.depL]
   | cons x r ih =>
    intro d
    have:=ih (max d x.dep)
    rw [Pat.depL]
    refine ⟨by omega,fun e he=>?_⟩
    rcases List.mem_cons.1 he with rfl | he
    · omega
    exact this.2 e he
  exact (this a 0).2 e he
 refine ⟨by rw [Pat.cnt];omega,by rw [Pat.dep];omega,fun x hx=>?_⟩
 rw [Pat.nodes]
 refine List.mem_cons_of_mem _ ?_
 obtain ⟨l1,l2,rfl⟩:=List.append_of_mem he
 rw [Pat.nodesL_append,Pat.nodesL]
 simp [h3 x hx]
theorem chkR_zero {p:Pat}:p.chkR=0↔p.cnt≤64∧p.dep≤12∧∀ q∈p.nodes,q.nodeE=0:=by
 unfold Pat.chkR
 by_cases h1:64<p.cnt
 · rw [if_pos h1];simp;omega
 rw [if_neg h1]
 by_cases h2:12<p.dep
 · rw [if_pos h2];simp;omega
 rw [if_neg h2]
 exact ⟨fun h=>⟨by omega,by omega,firstE_zero h⟩,fun h=>xc h.2.2⟩
theorem sorted_ext : ∀ a b:List Int,a.Pairwise (· < ·)→b.Pairwise (· < ·)→(∀ n,n∈a↔n∈b)→a=b
 | [],[],_,_,_=>rfl
 | [],y :: b,_,_,h=>by have:=(h y).2 (by simp);cases this
 | x :: a,[],_,_,h=>by have:=(h x).1 (by simp);cases this
 | x :: a,y :: b,ha,hb,h=>by
  have ha':=List.pairwise_cons.1 ha
  have hb':=List.pairwise_cons.1 hb
  have hxy:x=y:=by
   rcases List.mem_cons.1 ((h x).1 (by simp)) with e | e
   · exact e
   rcases List.mem_cons.1 ((h y).2 (by simp)) with e2 | e2
   · exact e2.symm
   have:=ha'.1 y e2;have:=hb'.1 x e;omega
  subst hxy
  refine congrArg (x :: ·) (sorted_ext a b ha'.2 hb'.2 fun n=>⟨fun hn=>?_,fun hn=>?_⟩)
  · rcases List.mem_cons.1 ((h n).1 (by simp [hn])) with e | e
    · subst e;have:=ha'.1 n hn;omega
    exact e
  rcases List.mem_cons.1 ((h n).2 (by simp [hn])) with e | e
  · subst e;have:=hb'.1 n hn;omega
  exact e
theorem ins_sorted {e u:List Int} {v:Int} (h:(e++u).Pairwise (· < ·)) (h1:∀ x∈e,x<v) (h2:∀ x∈u,v<x):(e++v :: u).Pairwise (· < ·):=by
 rw [List.pairwise_append] at h ⊢
 refine ⟨h.1,List.pairwise_cons.2 ⟨h2,h.2.1⟩,fun a ha b hb=>?_⟩
 rcases List.mem_cons.1 hb with rfl | hb
 · exact h1 a ha
 exact h.2.2 a ha b hb
theorem P_ref09_Bound (p:Pat) (hs:p.Sm):PCall EE 111 [p.enc] (.isl 1 (mapE int p.bound)):=by
  have h1:=yG p hs
  have hcl:=Pat.closed p
  have hnl:=Pat.nodes_len p
  have hs1:=hs.1
  have hnc:=Pat.closedI p.nodes
  have hnilI:mapE int []=[]:=by rw [zk];rfl
  have hbm:=fun n=>Pat.bound_mem (p:=p) n
  have hbp:=Pat.bound_nodup p
  generalize p.bound=B at *
  generalize hnn:p.nodes=nl at *
  obtain ⟨pO,pA,pT,pV,pS,pN,pCo,pCa,pCv,pCf,pCk,pXk,pXn,pXt,hx⟩:=Pat.form p
  rw [hx] at h1 hcl ⊢
  refine zr ?_;unhygienic intros
  generalize hes:mapE Pat.enc nl=es at *
  have hel:es.length=nl.length:=by rw [← hes,zq]
  refine fB T111 [.t 2] ?_
  refine Aq ?_
  refine oPA h1 ?_
  refine Aq ?_
  refine zf (ι:=List Pat × List Pat × Int × List Int × AV × List AV × Nat) (fun p=>([(5,int p.2.2.1),(4,.isl 14 es),(3,p.2.2.2.2.1)],[.arr 1 p.2.2.2.2.2.1])) (fun p=>nl=p.1++p.2.1∧p.2.2.1=p.1.length∧p.2.2.2.1.Pairwise (· < ·)∧(∀ n,n∈p.2.2.2.1↔n∈xP p.1)∧p.2.2.2.2.2.1=mapE int p.2.2.2.1∧p.2.2.2.1.length≤p.1.length∧p.2.2.2.2.2.2=p.2.2.2.2.2.1.length∧p.2.2.2.2.1=(if p.2.2.2.1=[] then .val (.slice none 0 0) else .sl 0 1 0 p.2.2.2.2.2.2)) (fun p=>p.2.1.length) ([],nl,0,[],.val (.slice none 0 0),[],0) ⟨rfl,rfl,List.Pairwise.nil,fun n=>Iff.rfl,hnilI.symm,Nat.le_refl _,rfl,rfl⟩ ?_ ?_
  · exact (zF [.gone] [none] ⟨trivial,trivial⟩ ⟨.none _ rfl,trivial⟩ ⟨.refl _,.cl hnc,.refl _,trivial⟩)
  rintro ⟨d,r,i,l,ov,w,m⟩ ⟨g1,gi,gp,gm,gw,gl,gM,go2⟩
  dsimp only at g1 gi gp gm gw gl gM go2 ⊢
  have hcw:AV.closedL w=true:=by rw [gw];exact zU _
  have hwl:w.length=l.length:=by rw [gw,zq]
  have hfw:wI 1 w=true:=by rw [gw];exact uO _
  cases r with
  | nil =>
    have L1:=zu g1
    try simp only [List.length] at L1
    have hc:iLt i (lenA es)=false:=yW e_iLt e_lenA (by omega)
    rw [List.append_nil] at g1
    have hB:B=l:=sorted_ext B l hbp gp fun n=>by rw [hbm,gm,g1]
    rw [hB]
    by_cases hl:l=[]
    · rw [if_pos hl] at go2
      rw [go2,hl,hnilI]
      have fz:=hc
      refine Cq ?_
      refine Aq ?_
      refine zo ?_
      refine Aq ?_
      refine zR rfl rfl ?_
      exact ⟨[.gone],⟨trivial,trivial⟩,.nilI _⟩
    rw [if_neg hl] at go2
    rw [go2,← gw]
    have fz:=hc
    refine Cq ?_
    refine Aq ?_
    refine zo ?_
    refine Aq ?_
    refine zR rfl rfl ?_
    exact ⟨[.isl 1 (w)],⟨⟨_,rfl,(zp _ hcw).symm⟩,trivial⟩,.of (yh rfl (by assumption))⟩
  | cons q r =>
    have L1:=zu g1
    try simp only [List.length] at L1
    have hc:iLt i (lenA es)=true:=yY e_iLt e_lenA (by omega)
    have hat:=zP e_atA hes g1 gi
    have hqc:=Pat.closed q
    have hbs:=bndF_snoc d q
    have hi2:iAdd .i64 i 1=((d++[q]).length:Int):=by rw [List.length_append];exact zJ e_iAdd gi (by omega)
    have hdl:(d++[q]).length=d.length+1:=by simp
    have hl2:l.length≤(d++[q]).length:=by omega
    obtain ⟨qO,qA,qT,qV,qS,qN,qCo,qCa,qCv,qCf,qCk,qXk,qXn,qXt,hy,hyc,hqO,hqA,hqT,hqV,hqS,hqN⟩:=Pat.form2 q
    rw [hy] at hat hqc
    rw [← hqV,← hqO] at hbs
    clear hy hyc hqO hqA hqT hqV hqS hqN
    by_cases ho:qO=0
    rotate_left
    · have k0:iNe qO 0=true:=by simp only [ee];simpa using ho
      rw [if_neg ho] at hbs
      by_cases hl:l=[]
      · rw [if_pos hl] at go2
        rw [go2]
        have fz:=And.intro hc (And.intro hat k0)
        refine Cq ?_
        refine Cr ?_
        refine Aq ?_
        refine zw (d++[q],r,iAdd .i64 i 1,l,.val (.slice none 0 0),w,m) ⟨by simp [g1],hi2,gp,by rw [hbs];exact gm,gw,hl2,gM,(if_pos hl).symm⟩ (by simp) (zF [.to 0] [some 0] ⟨⟨by simp,rfl⟩,trivial⟩ ⟨yE (b:=0) rfl rfl rfl rfl hcw,trivial⟩ ⟨.refl _,.cl hnc,.refl _,trivial⟩)
      rw [if_neg hl] at go2
      rw [go2]
      have fz:=And.intro hc (And.intro hat k0)
      refine Cq ?_
      refine Cr ?_
      refine Aq ?_
      refine zw (d++[q],r,iAdd .i64 i 1,l,.sl 0 1 0 m,w,m) ⟨by simp [g1],hi2,gp,by rw [hbs];exact gm,gw,hl2,gM,(if_neg hl).symm⟩ (by simp) (zF [.to 0] [some 0] ⟨⟨by simp,rfl⟩,trivial⟩ ⟨yE (b:=0) rfl rfl rfl rfl hcw,trivial⟩ ⟨.refl _,.cl hnc,.refl _,trivial⟩)
    have k0:iNe qO 0=false:=by simp only [ee];simpa using ho
    rw [if_pos ho] at hbs
    have n0:bNot false=true:=by simp only [ee];rfl
    have n1:bNot true=false:=by simp only [ee];rfl
    by_cases hl:l=[]
    · rw [if_pos hl] at go2
      rw [go2]
      subst hl
      rw [hnilI] at gw
      subst gw
      have k1:iLt 0 0=false:=by simp only [ee];rfl
      have fz:=And.intro hc (And.intro hat k0)
      refine Cq ?_
      refine Cr ?_
      refine Aq ?_
      refine zf (ι:=Int) (fun p=>([(7,bool false),(6,int p),(5,int i),(4,.isl 14 es),(3,.val (.slice none 0 0))],[])) (fun p=>p=0) (fun p=>0) 0 rfl ?_ ?_
      · exact (zF [.gone] [] ⟨trivial,trivial⟩ trivial ⟨.refl _,.refl _,.refl _,.cl hnc,.refl _,trivial⟩)
      rintro j gj
      dsimp only at gj ⊢
      subst gj
      have hm2:∀ n,n∈[qV]↔n∈xP (d++[q]):=fun n=>by rw [hbs,List.mem_append,← gm n];simp
      have k2:iLt 0 (Int.ofNat 0)=false:=by simp only [ee];rfl
      have u1:catA (dropA [int qV] 0) []=[int qV]:=by simp only [ee];rfl
      have u2:partA [int qV] 0 (addN 1 (lenN []))=[int qV]:=by simp only [ee];rfl
      have u3:lenN [int qV]=1:=by simp only [ee];rfl
      refine Aq ?_
      refine zb rfl (by conv=>lhs;cbv) rfl ?_
      refine tgA ?_
      have fz:=And.intro k1 (And.intro k2 (And.intro n0 (And.intro hc (And.intro hat (And.intro u1 (And.intro u2 u3))))))
      refine tgC ?_
      refine zy (.inl rfl) ?_
      refine zy (.inl rfl) ?_
      refine zy (.inl rfl) ?_
      refine zy (.inl rfl) ?_
      refine zy (.inl rfl) ?_
      refine zy (.inl rfl) ?_
      refine zy (.inl rfl) ?_
      refine zy (.inl rfl) ?_
      refine zy (.inl rfl) ?_
      refine zy (.inl rfl) ?_
      refine tgA ?_
      refine zW ⟨rfl,by simp [za],?_⟩
      refine Aq ?_
      refine zo ?_
      refine Cq ?_
      refine Aq ?_
      refine uj rfl (by conv=>lhs;cbv) (by conv=>lhs;cbv) (by decide) (by decide) (by conv=>lhs;cbv) rfl ?_
      refine tgC ?_
      refine zW ⟨rfl,by simp [za],?_⟩
      refine Aq ?_
      refine zw (d++[q],r,iAdd .i64 i 1,[qV],.sl 0 1 0 1,[int qV],1) ⟨by simp [g1],hi2,List.pairwise_singleton _ _,hm2,by rw [zk];rfl,by simp,rfl,rfl⟩ (by simp) (zF [.gone,.gone,.to 0] [some 2] ⟨trivial,trivial,⟨by simp,rfl⟩,trivial⟩ ⟨yE (b:=2) rfl rfl rfl rfl hcw,trivial⟩ ⟨.refl _,.cl hnc,.refl _,trivial⟩)
    rw [if_neg hl] at go2
    rw [go2]
    have hm0:0<m:=by rw [gM,hwl];exact List.length_pos_iff.2 hl
    have fz:=And.intro hc (And.intro hat k0)
    refine Cq ?_
    refine Cr ?_
    refine Aq ?_
    refine zf (ι:=List Int × List Int × Int × Bool) (fun p=>([(7,bool p.2.2.2),(6,int p.2.2.1),(5,int i),(4,.isl 14 es),(3,.sl 0 1 0 m)],[.arr 1 w])) (fun p=>l=p.1++p.2.1∧p.2.2.1=p.1.length∧p.2.2.2=decide (qV∈p.1)∧(∀ x∈p.1,x≤qV)) (fun p=>p.2.1.length) ([],l,0,false) ⟨rfl,rfl,by simp,by simp⟩ ?_ ?_
    · exact (zF [.to 0] [some 0] ⟨⟨by simp,rfl⟩,trivial⟩ ⟨yE (b:=0) rfl rfl rfl rfl hcw,trivial⟩ ⟨.refl _,.refl _,.refl _,.cl hnc,.refl _,trivial⟩)
    rintro ⟨e,u,j,tw⟩ ⟨v1,vj,vt,vl⟩
    dsimp only at v1 vj vt vl ⊢
    have hlen:=congrArg List.length v1
    rw [List.length_append] at hlen
    -- what is put in
    have ins:(∀ x∈u,qV<x)→tw=false→(e++qV :: u).Pairwise (· < ·)∧(∀ n,n∈e++qV :: u↔n∈xP (d++[q])):=fun hu ht=>by
      rw [vt] at ht
      have hn:qV∉e:=by simpa using ht
      rw [v1] at gp
      refine ⟨ins_sorted gp (fun x hx=>?_) hu,fun n=>?_⟩
      · have:=vl x hx
        have:x≠qV:=fun e2=>hn (e2 ▸ hx)
        omega
      have hd2:n∈xP d↔n∈e∨n∈u:=by rw [← gm n,v1,List.mem_append]
      rw [hbs]
      simp only [List.mem_append,List.mem_cons,List.not_mem_nil,or_false]
      rw [hd2]
      constructor
      · rintro (h | h | h)
        · exact .inl (.inl h)
        · exact .inr h
        exact .inl (.inr h)
      rintro ((h | h) | h)
      · exact .inl h
      · exact .inr (.inr h)
      exact .inr (.inl h)
    have same:tw=true→∀ n,n∈l↔n∈xP (d++[q]):=fun ht n=>by
      rw [vt] at ht
      have hn:qV∈e:=by simpa using ht
      rw [hbs,List.mem_append,← gm n]
      constructor
      · exact .inl
      rintro (h | h)
      · exact h
      simp at h;rw [h,v1];exact List.mem_append.2 (.inl hn)
    obtain ⟨U,hU⟩:∃ z,z=mapE int u:=⟨_,rfl⟩
    obtain ⟨A,hA⟩:∃ z,z=mapE int e:=⟨_,rfl⟩
    have hUl:U.length=u.length:=by rw [hU,zq]
    have hAl:A.length=e.length:=by rw [hA,zq]
    have hwAU:w=A++U:=by rw [gw,v1,hA,hU,zk,List.map_append,← zk,← zk]
    have hUf:wI 1 U=true:=by rw [hU];exact uO _
    have hAf:wI 1 A=true:=by rw [hA];exact uO _
    have hUc:AV.closedL U=true:=by rw [hU];exact zU _
    have hAc:AV.closedL A=true:=by rw [hA];exact zU _
    have f1:partA w (idxN 0 j) (lenCut j (iOf m))=U:=by
      simp only [ee]
      rw [hwAU,show 0+j.toNat=A.length by omega,List.drop_left,List.take_of_length_le (by omega)]
    have f5:partA w 0 (natOf j)=A:=by
      simp only [ee]
      rw [hwAU,List.drop_zero,show j.toNat=A.length by omega,List.take_left]
    obtain ⟨VU,hVU⟩:∃ z,z=int qV :: U:=⟨_,rfl⟩
    have hVf:wI 1 VU=true:=by rw [hVU,hU,← show mapE int (qV :: u)=int qV :: mapE int u by rw [zk,zk];rfl];exact uO _
    have hVl:VU.length=u.length+1:=by rw [hVU,List.length_cons,hUl]
    have f2:catA (dropA [int qV] 0) U=VU:=by rw [hVU];simp only [ee];rfl
    have f4:partA VU 0 (addN 1 (lenN U))=VU:=by
      simp only [ee]
      rw [List.drop_zero,List.take_of_length_le (by omega)]
    obtain ⟨W,hW⟩:∃ z,z=A++VU:=⟨_,rfl⟩
    have f6:catA A VU=W:=by rw [hW];simp only [ee]
    have hWe:W=mapE int (e++qV :: u):=by rw [hW,hVU,hA,hU,zk,zk,zk];simp
    have hWc:AV.closedL W=true:=by rw [hWe];exact zU _
    have hWl:addN (natOf j) (lenN VU)=W.length:=by simp only [ee];rw [hW,List.length_append];omega
    have hel2:(e++qV :: u).length≤(d++[q]).length:=by simp;simp at hdl;omega
    have hne2:¬ (e++qV :: u=[]):=by simp
    cases u with
    | nil =>
      have kc:iLt j (iOf m)=false:=by simp only [ee];simp at hlen ⊢;omega
      have hax:atN w (idxN 0 j)=.undef:=by
        simp only [ee]
        rw [List.getD_eq_getElem?_getD,List.getElem?_eq_none (by simp at hlen;omega)];rfl
      cases tw with
      | true =>
        have same:=same rfl
        have fz:=And.intro kc (And.intro hax (And.intro n1 (And.intro hc hat)))
        refine Cq ?_
        refine zb rfl (by conv=>lhs;cbv) rfl ?_
        refine tgA ?_
        refine tgC ?_
        refine zy (.inl rfl) ?_
        refine zy (.inl rfl) ?_
        refine zy (.inl rfl) ?_
        refine zy (.inl rfl) ?_
        refine zy (.inl rfl) ?_
        refine zy (.inl rfl) ?_
        refine zy (.inl rfl) ?_
        refine zy (.inl rfl) ?_
        refine zy (.inl rfl) ?_
        refine zy (.inl rfl) ?_
        refine tgA ?_
        refine zW ⟨rfl,by simp [za],?_⟩
        refine Aq ?_
        refine zo ?_
        refine Cq ?_
        refine Aq ?_
        refine zw (d++[q],r,iAdd .i64 i 1,l,.sl 0 1 0 m,w,m) ⟨by simp [g1],hi2,gp,same,gw,hl2,gM,(if_neg hl).symm⟩ (by simp) (zF [.to 0] [some 0] ⟨⟨by simp,rfl⟩,trivial⟩ ⟨yE (b:=0) rfl rfl rfl rfl hcw,trivial⟩ ⟨.refl _,.cl hnc,.refl _,trivial⟩)
      | false =>
        obtain ⟨i1,i2⟩:=ins (by simp) rfl
        have fz:=And.intro kc (And.intro hax (And.intro n0 (And.intro hc (And.intro hat (And.intro f1 (And.intro f2 (And.intro f4 (And.intro f5 f6))))))))
        refine Cq ?_
        refine zb rfl (by conv=>lhs;cbv) rfl ?_
        refine tgA ?_
        refine tgC ?_
        refine zy (.inl rfl) ?_
        refine zy (.inl rfl) ?_
        refine zy (.inl rfl) ?_
        refine zy (.inl rfl) ?_
        refine zy (.inl rfl) ?_
        refine zy (.inl rfl) ?_
        refine zy (.inl rfl) ?_
        refine zy (.inl rfl) ?_
        refine zy (.inl rfl) ?_
        refine zy (.inl rfl) ?_
        refine tgA ?_
        refine zW ⟨rfl,by simp [za],?_⟩
        refine Aq ?_
        refine zo ?_
        refine Cq ?_
        refine Aq ?_
        refine uj rfl (by conv=>lhs;cbv) (by conv=>lhs;cbv) (by decide) (by decide) (by conv=>lhs;cbv) rfl ?_
        refine tgC ?_
        refine zW ⟨rfl,by simp [za],?_⟩
        refine Aq ?_
        refine zw (d++[q],r,iAdd .i64 i 1,e++[qV],.sl 0 1 0 (addN (natOf j) (lenN VU)),W,addN (natOf j) (lenN VU)) ⟨by simp [g1],hi2,i1,i2,hWe,hel2,hWl,(if_neg hne2).symm⟩ (by simp) (zF [.gone,.gone,.gone,.to 0] [some 3] ⟨trivial,trivial,trivial,⟨by simp,rfl⟩,trivial⟩ ⟨yE (b:=3) rfl rfl rfl rfl hWc,trivial⟩ ⟨.refl _,.cl hnc,.refl _,trivial⟩)
    | cons x u =>
      have hlc:(x :: u).length=u.length+1:=rfl
      have kc:iLt j (iOf m)=true:=by simp only [ee];simp at hlen ⊢;omega
      have hjx:idxN 0 j<w.length:=by simp only [ee];simp at hlen;omega
      have hax:atN w (idxN 0 j)=int x:=by
        simp only [ee]
        rw [gw,v1,zk,List.getD_eq_getElem?_getD,List.getElem?_map,show 0+j.toNat=e.length by omega];simp
      by_cases hx:x≤qV
      · have kx:iLe x qV=true:=by simp only [ee];simpa using hx
        have hj2:iAdd .i64 j 1=((e++[x]).length:Int):=by rw [List.length_append];exact zJ e_iAdd vj (by omega)
        have hvl:∀ y∈e++[x],y≤qV:=fun y hy=>by
          rcases List.mem_append.1 hy with h | h
          · exact vl y h
          simp at h;rw [h];exact hx
        cases tw with
        | true =>
          have ht:true=decide (qV∈e++[x]):=by have h3:qV∈e:=(by simpa using vt.symm);simp [h3]
          have fz:=And.intro kc (And.intro kx (And.intro hc (And.intro hat hax)))
          refine Cq ?_
          refine oC (fun c1=>?_) fun c1=>?_
          ·
            simp [ee] at c1
            refine Aq ?_
            refine uj rfl (by conv=>lhs;cbv) (by conv=>lhs;cbv) (by decide) (by decide) (by conv=>lhs;cbv) rfl ?_
            refine tgA ?_
            refine zy (.inl rfl) ?_
            refine zy (.inl rfl) ?_
            refine zy (.inl rfl) ?_
            refine zy (.inl rfl) ?_
            refine zy (.inl rfl) ?_
            refine zy (.inl rfl) ?_
            refine zy (.inl rfl) ?_
            refine zy (.inl rfl) ?_
            refine zy (.inl rfl) ?_
            refine zy (.inl rfl) ?_
            refine tgA ?_
            refine zW ⟨rfl,by simp [za],?_⟩
            refine Aq ?_
            refine zw (e++[x],u,iAdd .i64 j 1,true) ⟨by simp [v1],hj2,ht,hvl⟩ (by simp) (zF [.to 0] [some 0] ⟨⟨by simp,rfl⟩,trivial⟩ ⟨yE (b:=0) rfl rfl rfl rfl hcw,trivial⟩ ⟨.refl _,.refl _,.refl _,.cl hnc,.refl _,trivial⟩)
          simp [ee] at c1
        | false =>
          have ht:iEq x qV=decide (qV∈e++[x]):=by
            have:qV∉e:=by simpa using vt.symm
            simp only [ee]
            rw [Bool.eq_iff_iff];simp [this];exact eq_comm
          have fz:=And.intro kc (And.intro kx (And.intro hc (And.intro hat hax)))
          refine Cq ?_
          refine oC (fun c1=>?_) fun c1=>?_
          ·
            simp [ee] at c1
            refine Aq ?_
            refine uj rfl (by conv=>lhs;cbv) (by conv=>lhs;cbv) (by decide) (by decide) (by conv=>lhs;cbv) rfl ?_
            refine tgA ?_
            refine zn rfl ?_
            refine tgA ?_
            refine zn rfl ?_
            refine tgA ?_
            refine zn rfl ?_
            refine tgA ?_
            refine zn rfl ?_
            refine tgC ?_
            refine zn rfl ?_
            refine tgA ?_
            refine zn rfl ?_
            refine tgA ?_
            refine zn rfl ?_
            refine tgA ?_
            refine zn rfl ?_
            refine tgA ?_
            refine zn rfl ?_
            refine tgC ?_
            refine zn rfl ?_
            refine tgA ?_
            refine zW ⟨rfl,by simp [za,zZ],?_⟩
            refine Aq ?_
            refine zw (e++[x],u,iAdd .i64 j 1,iEq x qV) ⟨by simp [v1],hj2,ht,hvl⟩ (by simp) (zF [.to 0] [some 0] ⟨⟨by simp,rfl⟩,trivial⟩ ⟨yE (b:=0) rfl rfl rfl rfl hcw,trivial⟩ ⟨.refl _,.refl _,.refl _,.cl hnc,.refl _,trivial⟩)
          simp [ee] at c1
      have kx:iLe x qV=false:=by simp only [ee];simpa using hx
      have hub:∀ y∈x :: u,qV<y:=fun y hy=>by
        have hp2:(x :: u).Pairwise (· < ·):=by rw [v1] at gp;exact (List.pairwise_append.1 gp).2.1
        rcases List.mem_cons.1 hy with rfl | h
        · omega
        have:=(List.pairwise_cons.1 hp2).1 y h;omega
      cases tw with
      | true =>
        have same:=same rfl
        have fz:=And.intro kc (And.intro kx (And.intro n1 (And.intro hc (And.intro hat hax))))
        refine Cq ?_
        refine oC (fun c1=>?_) fun c1=>?_
        ·
          simp [ee] at c1
        simp [ee] at c1
        refine Aq ?_
        refine zo ?_
        refine Cq ?_
        refine Aq ?_
        refine zw (d++[q],r,iAdd .i64 i 1,l,.sl 0 1 0 m,w,m) ⟨by simp [g1],hi2,gp,same,gw,hl2,gM,(if_neg hl).symm⟩ (by simp) (zF [.to 0] [some 0] ⟨⟨by simp,rfl⟩,trivial⟩ ⟨yE (b:=0) rfl rfl rfl rfl hcw,trivial⟩ ⟨.refl _,.cl hnc,.refl _,trivial⟩)
      | false =>
        obtain ⟨i1,i2⟩:=ins hub rfl
        have fz:=And.intro kc (And.intro kx (And.intro n0 (And.intro hc (And.intro hat (And.intro hax (And.intro f1 (And.intro f2 (And.intro f4 (And.intro f5 f6)))))))))
        refine Cq ?_
        refine oC (fun c1=>?_) fun c1=>?_
        ·
          simp [ee] at c1
        simp [ee] at c1
        refine Aq ?_
        refine zo ?_
        refine Cq ?_
        refine Aq ?_
        refine uj rfl (by conv=>lhs;cbv) (by conv=>lhs;cbv) (by decide) (by decide) (by conv=>lhs;cbv) rfl ?_
        refine tgC ?_
        refine zW ⟨rfl,by simp [za],?_⟩
        refine Aq ?_
        refine zw (d++[q],r,iAdd .i64 i 1,e++qV :: x :: u,.sl 0 1 0 (addN (natOf j) (lenN VU)),W,addN (natOf j) (lenN VU)) ⟨by simp [g1],hi2,i1,i2,hWe,hel2,hWl,(if_neg hne2).symm⟩ (by simp) (zF [.gone,.gone,.gone,.to 0] [some 3] ⟨trivial,trivial,trivial,⟨by simp,rfl⟩,trivial⟩ ⟨yE (b:=3) rfl rfl rfl rfl hWc,trivial⟩ ⟨.refl _,.cl hnc,.refl _,trivial⟩)
structure Plc where
 us:List Int
 si:List Int
 fb:Int
noncomputable def Plc.enc (s:Plc):AV:=.agg [.isl 1 (mapE int s.us),.isl 1 (mapE int s.si),int s.fb]
def Plc0 : Plc:=⟨[],[],0⟩
theorem Plc.closed (s:Plc):s.enc.closed=true:=by simp [Plc.enc,AV.closed,AV.closedL,zU]
def zG (a b:List Int):List Int:=Lib.compact (yH (a++b))
theorem uni_mem (a b:List Int) (n:Int):n∈zG a b↔n∈a∨n∈b:=by
 unfold zG
 rw [(comp_ok _ (sort_sorted _)).2,sort_mem,List.mem_append]
theorem xy (a b:List Int):(zG a b).Pairwise (· < ·):=(comp_ok _ (sort_sorted _)).1
theorem uni_ext {a b c:List Int} (hc:c.Pairwise (· < ·)) (h:∀ n,n∈c↔n∈a∨n∈b):zG a b=c :=
 sorted_ext _ _ (xy a b) hc fun n=>by rw [uni_mem,h]
theorem uni_len (a b:List Int):(zG a b).length≤a.length+b.length:=by
 unfold zG
 have h1:(Lib.compact (yH (a++b))).length≤(yH (a++b)).length:=vW _
 rw [ud] at h1
 simpa using h1
theorem nodup_le : ∀ (n:Nat) (l:List Int),l.Nodup→(∀ v∈l,0≤v∧v<n)→l.length≤n
 | 0,l,_,h=>by
  cases l with
  | nil=>simp
  | cons x r=>have:=h x (by simp);omega
 | n+1,l,hn,h=>by
  by_cases hm:(n:Int)∈l
  · have h1:=nodup_le n (l.erase n) (hn.erase _) (fun v hv=>by
     have:=(List.Nodup.mem_erase_iff hn).1 hv
     have:=h v this.2
     omega)
    rw [List.length_erase_of_mem hm] at h1
    omega
  have:=nodup_le n l hn (fun v hv=>by
   have:=h v hv
   have:v≠n:=fun e=>hm (e ▸ hv)
   omega)
  omega
def VR (l:List Int):Prop:=∀ n∈l,0≤n∧n<16
theorem VR.uni {a b:List Int} (ha:VR a) (hb:VR b):VR (zG a b):=fun n hn=>by
 rcases (uni_mem a b n).1 hn with h | h
 · exact ha n h
 exact hb n h
theorem VR.len {l:List Int} (h:VR l) (hs:l.Pairwise (· < ·)):l.length≤16:=nodup_le 16 l (hs.imp fun h=>by omega) h
def vZ (o:Int):Bool:=decide (o=0∨o=1∨o=3∨o=5∨o=6∨o=7)
def yB (o:Int):Bool:=decide (o=0∨o=5∨o=7)
mutual
def Pat.ones : Pat→List Int
 | .mk o a _ v _ _ _=>if vZ o=true then (if o=0 then [v] else Pat.onesL [] a) else []
def Pat.onesL : List Int→List Pat→List Int
 | acc,[]=>acc
 | acc,e :: r=>Pat.onesL (zG acc e.ones) r
end
def Pat.arg0 (p:Pat):Pat:=p.args.headD Pat0
def Pat.own (p:Pat) (l:Plc):Plc :=
 if p.op=0 then ⟨zG l.us [p.var],zG l.si [p.var],-1⟩
 else if p.op=5 then ⟨zG (zG l.us p.arg0.bound) [p.var],zG l.si [p.var],p.var⟩
 else ⟨zG l.us p.arg0.bound,zG l.si p.arg0.ones,-1⟩
def Plc.plus (l:Plc) (e:Pat):Plc:=⟨zG l.us e.bound,zG l.si e.ones,-1⟩
mutual
def Pat.lf : Plc→Pat→List (Pat × Plc)
 | l,.mk o a t v s n c=>(.mk o a t v s n c,l) :: Pat.lfL (decide (o=1)) l a
def Pat.lfL : Bool→Plc→List Pat→List (Pat × Plc)
 | _,_,[]=>[]
 | b,l,e :: r=>Pat.lf l e++Pat.lfL b (if b then l.plus e else l) r
end
def PlcS : Plc:=⟨[],[],-1⟩
theorem Pat.lfL_map {r:List Pat} (h:∀ e∈r,∀ l,(Pat.lf l e).map Prod.fst=e.nodes):∀ b l,(Pat.lfL b l r).map Prod.fst=Pat.nodesL r:=by
 induction r with
 | nil=>intro b l;rfl
 | cons x r ih =>
  intro b l
  rw [Pat.lfL,Pat.nodesL,List.map_append,h x (by simp),ih fun e he=>h e (by simp [he])]
theorem Pat.lf_map : ∀ p:Pat,∀ l,(Pat.lf l p).map Prod.fst=p.nodes:=Pat.ind fun o a t v s n c h l=>by
 rw [Pat.lf,Pat.nodes,List.map_cons,Pat.lfL_map h]
theorem Pat.lf_len (p:Pat) (l:Plc):(Pat.lf l p).length=p.cnt:=by rw [← Pat.nodes_len,← Pat.lf_map p l,List.length_map]
noncomputable def uB (s:Plc) (e:Ex):Int:=open Classical in
 if 1≤e.op∧e.op≤4 then (if e.var∉s.us then 10 else if ((e.op=1∨e.op=2)∧e.var∉s.si)∨((e.op=3∨e.op=4)∧e.var=s.fb) then 11 else 0) else 0
noncomputable def Ex.fol (s:Plc) (e:Ex):Int:=zm (uB s) e.nodes
noncomputable def Pat.atE (p:Pat) (i:Int):Int :=
 if p.chk≠0 then p.chk else if 0≤i∧i<p.nodes.length then (if yB (p.nodeAt i).op=true then 0 else 1) else 6
noncomputable def Pat.atP (p:Pat) (i:Int):Plc:=if p.atE i=0 then (((Pat.lf PlcS p).getD i.toNat (Pat0,Plc0)).1.own ((Pat.lf PlcS p).getD i.toNat (Pat0,Plc0)).2) else Plc0
noncomputable def yI (x:Pat × Plc):Int:=if yB x.1.op=true then x.1.cond.fol (x.1.own x.2) else 0
def yg {α:Type} (F:α→Int):List α→Int
 | []=>0
 | x :: r=>if F x≠0 then 0 else if zm F r≠0 then yg F r+1 else 0
noncomputable def Pat.scE (p:Pat):Int:=if p.chk≠0 then p.chk else zm yI (Pat.lf PlcS p)
noncomputable def Pat.scI (p:Pat):Int:=if p.chk≠0 then 0 else yg yI (Pat.lf PlcS p)
noncomputable def x8 (s:Plc) (e:Ex):Int:=if e.chk≠0 then e.chk else e.fol s
noncomputable def Pat.retP (p:Pat):Plc:=⟨p.bound,p.ones,-1⟩
noncomputable def Pat.rtE (p:Pat) (l:List Ex):Int:=if p.chk≠0 then p.chk else if 256<l.length then 5 else zm (x8 p.retP) l
noncomputable def Pat.rtI (p:Pat) (l:List Ex):Int:=if p.chk≠0 then 0 else if 256<l.length then 0 else yg (x8 p.retP) l
theorem O_Grow (n:Nat) (hn:n<500000000000):OCall EE 180 [.val (.slice none 0 0),int n] (.sl 0 1 0 0) [.arr 1 []]:=by
 have hn0:(0:Int)≤n:=by omega
 have hn1:(n:Int)<500000000000:=by omega
 generalize (n:Int)=m at hn0 hn1 ⊢
 refine zr ?_;unhygienic intros
 refine oB T180 [.t 4] ?_
 refine goA 0 ?_
 refine oC (fun h1=>?_) fun h1=>?_
 · exfalso
   simp [ee] at h1
   omega
 have hs0:iSub .i64 (Int.ofNat 0) (Int.ofNat 0)=0:=by rw [e_iSub];simp [Wd.iSub,IntKind.wrap_i64]
 have hs:iSub .i64 m 0=m:=by
  rw [e_iSub];simp [Wd.iSub,IntKind.wrap_i64];omega
 have fz:=And.intro hs0 hs
 refine Cq ?_
 refine oC (fun h2=>?_) fun h2=>?_
 · simp [ee] at h2
   refine goA 0 ?_
   exact xi (F2:=[(4,.sl 0 1 0 0)]) (H2:=[.arr 1 []]) (.trans (ent_trunc (b:=0) (m:=0) rfl (by simp)) (zF [.to 0] [some 0] ⟨⟨by simp,rfl⟩,trivial⟩ ⟨yE (b:=0) rfl rfl rfl rfl rfl,trivial⟩ ⟨.of (by simp only [ee];rfl),trivial⟩)) rfl ⟨rfl,rfl⟩
 simp [ee] at h2
 refine goA 0 ?_
 exact xi (F2:=[(4,.sl 0 1 0 0)]) (H2:=[.arr 1 []]) (eS [] [none]) rfl ⟨rfl,rfl⟩
theorem O_Concat (a b:List Int) (ha:a.length<1048577) (hb:b.length<1048577):OCall EE 165 [.isl 1 [.isl 1 (mapE int a),.isl 1 (mapE int b)]] (.sl 0 1 0 (a++b).length) [.arr 1 (mapE int (a++b))]:=by
 have hg:=O_Grow (a.length+b.length) (by omega)
 have hal:(mapE int a).length=a.length:=zq ..
 have hbl:(mapE int b).length=b.length:=zq ..
 have hac:=zU a
 have hbc:=zU b
 have haf:=uO a
 have hbf:=uO b
 have hab:mapE int (a++b)=mapE int a++mapE int b:=by rw [zk,zk,zk,List.map_append]
 rw [hab]
 obtain ⟨al,hal2⟩:∃ z:Int,z=a.length:=⟨_,rfl⟩
 obtain ⟨tl,htl2⟩:∃ z:Int,z=((a.length+b.length:Nat):Int):=⟨_,rfl⟩
 obtain ⟨la,hla⟩:∃ z:Nat,z=a.length:=⟨_,rfl⟩
 rw [← htl2] at hg
 obtain ⟨lab,hlab⟩:∃ z:Nat,z=(a++b).length:=⟨_,rfl⟩
 rw [← hlab]
 rw [List.length_append] at hlab
 generalize hea:mapE int a=ea at *
 generalize heb:mapE int b=eb at *
 obtain ⟨eab,heab⟩:∃ z,z=ea++eb:=⟨_,rfl⟩
 rw [← heab]
 have habc:AV.closedL eab=true:=by rw [heab];exact closedL_append hac hbc
 have hablen:eab.length=lab:=by rw [heab,List.length_append];omega
 refine zr ?_;unhygienic intros
 have hi0:iAdd .i64 0 1=1:=by rw [ww e_iAdd (by omega) (by omega)];rfl
 have hi1:iAdd .i64 1 1=2:=by rw [ww e_iAdd (by omega) (by omega)];rfl
 have hl2:lenA [.isl 1 ea,.isl 1 eb]=2:=by simp only [ee];rfl
 have ht0:atA [.isl 1 ea,.isl 1 eb] 0=.isl 1 ea:=by simp only [ee];rfl
 have ht1:atA [.isl 1 ea,.isl 1 eb] 1=.isl 1 eb:=by simp only [ee];rfl
 have c0:iLt 0 2=true:=by simp only [ee];rfl
 have c1:iLt 1 2=true:=by simp only [ee];rfl
 have c2:iLt 2 2=false:=by simp only [ee];rfl
 have s1:iAdd .i64 0 (lenA ea)=al:=by rw [ww e_iAdd (by simp only [ee];omega) (by simp only [ee];omega)];simp only [ee];omega
 have s2:iAdd .i64 al (lenA eb)=tl:=by rw [ww e_iAdd (by simp only [ee];omega) (by simp only [ee];omega)];simp only [ee];omega
 have n1:iLt al 0=false:=by simp only [ee];simp;omega
 have n2:iLt tl 0=false:=by simp only [ee];simp;omega
 have hcI:(AV.isl 1 [.isl 1 ea,.isl 1 eb]).closed=true:=by simp [AV.closed,AV.closedL,hac,hbc]
 have haI:(AV.isl 1 ea).closed=true:=by simp [AV.closed,hac]
 have hbI:(AV.isl 1 eb).closed=true:=by simp [AV.closed,hbc]
 have u1:catA (dropA [] 0) ea=ea:=by simp only [ee];rfl
 have u2:addN 0 (lenN ea)=la:=by simp only [ee];omega
 have u3:catA (dropA ea 0) eb=eab:=by simp only [ee];rw [heab];rfl
 have u4:addN la (lenN eb)=lab:=by simp only [ee];omega
 refine oB T165 [.t 2] ?_
 have fz:=hl2
 refine Cq ?_
 refine Aq ?_
 refine zf (ι:=Int × Int) (fun p=>([(11,int p.1),(10,int 2),(9,.isl 1 [.isl 1 ea,.isl 1 eb]),(0,.isl 1 [.isl 1 ea,.isl 1 eb]),(3,int p.2)],[])) (fun p=>(p.1=0∧p.2=0)∨(p.1=1∧p.2=al)∨(p.1=2∧p.2=tl)) (fun p=>(2 - p.1).toNat) (0,0) (.inl ⟨rfl,rfl⟩) ?_ ?_
 · exact (eS [] [])
 rintro ⟨i,t⟩ gi
 dsimp only at gi ⊢
 rcases gi with ⟨gi,gt⟩ | ⟨gi,gt⟩ | ⟨gi,gt⟩
 · rw [gi,gt]
   have fz:=And.intro c0 (And.intro hi0 (And.intro ht0 (And.intro s1 n1)))
   refine Cq ?_
   refine Cr ?_
   refine Aq ?_
   refine zw (1,al) (.inr (.inl ⟨rfl,rfl⟩)) (by simp) (zF [] [] trivial trivial ⟨.of (congrArg int (by assumption)),.refl _,.cl hcI,.cl hcI,.refl _,trivial⟩)
 · rw [gi,gt]
   have fz:=And.intro c1 (And.intro hi1 (And.intro ht1 (And.intro s2 n2)))
   refine Cq ?_
   refine Cr ?_
   refine Aq ?_
   refine zw (2,tl) (.inr (.inr ⟨rfl,rfl⟩)) (by simp) (zF [] [] trivial trivial ⟨.of (congrArg int (by assumption)),.refl _,.cl hcI,.cl hcI,.refl _,trivial⟩)
 rw [gi,gt]
 clear gi gt i t
 have fz:=c2
 refine Cq ?_
 refine Aq ?_
 refine zo ?_
 refine Aq ?_
 refine on_ocall (args:=[.val (.slice none 0 0),int tl]) (v':=.sl 0 1 0 0) (H':=[.arr 1 []]) rfl rfl rfl hg rfl rfl rfl ?_
 have fz:=hl2
 refine Cq ?_
 refine Aq ?_
 refine zf (ι:=Int × Nat × List AV) (fun p=>([(27,int p.1),(26,int 2),(25,.isl 1 [.isl 1 ea,.isl 1 eb]),(6,.sl 0 1 0 p.2.1)],[.arr 1 p.2.2])) (fun p=>(p.1=0∧p.2.1=0∧p.2.2=[])∨(p.1=1∧p.2.1=la∧p.2.2=ea)∨(p.1=2∧p.2.1=lab∧p.2.2=eab)) (fun p=>(2 - p.1).toNat) (0,0,[]) (.inl ⟨rfl,rfl,rfl⟩) ?_ ?_
 · exact (eS [.to 0] [some 0])
 rintro ⟨i,m,w⟩ gi
 dsimp only at gi ⊢
 rcases gi with ⟨gi,gm,gw⟩ | ⟨gi,gm,gw⟩ | ⟨gi,gm,gw⟩
 · rw [gi,gm,gw]
   have fz:=And.intro c0 (And.intro hi0 (And.intro ht0 (And.intro u1 u2)))
   refine Cq ?_
   refine Cr ?_
   refine zw (1,la,ea) (.inr (.inl ⟨rfl,rfl,rfl⟩)) (by simp) (eS [.gone,.to 0] [some 1])
 · rw [gi,gm,gw]
   have fz:=And.intro c1 (And.intro hi1 (And.intro ht1 (And.intro u3 u4)))
   refine Cq ?_
   refine Cr ?_
   refine zw (2,lab,eab) (.inr (.inr ⟨rfl,rfl,rfl⟩)) (by simp) (eS [.gone,.to 0] [some 1])
 rw [gi,gm,gw]
 have fz:=c2
 refine Cq ?_
 refine Aq ?_
 refine zo ?_
 refine Aq ?_
 refine xi (F2:=[(2,.sl 0 1 0 lab)]) (H2:=[.arr 1 eab]) ?_ rfl ⟨rfl,rfl⟩
 exact (eS [.to 0] [some 0])
theorem vL (a b:List Int) (ha:a.length<1048577) (hb:b.length<1048577):PCall EE 140 [.isl 1 (mapE int a),.isl 1 (mapE int b)] (.isl 1 (mapE int (zG a b))):=by
 have h1:=O_Concat a b ha hb
 have hlen:(a++b).length<4611686018427387904:=by rw [List.length_append];omega
 have hss:=C_Sort (a++b) hlen
 have hcc:=C_Compact (yH (a++b)) (by rw [ud];exact hlen)
 rw [ud] at hcc
 have hR:zG a b=Lib.compact (yH (a++b)):=rfl
 have hac:=zU a
 have hbc:=zU b
 have haI:=zx a
 have hbI:=zx b
 have c1:=zU (a++b)
 have c2:=zU (yH (a++b))
 have c3:=zU (x5 (yH (a++b)))
 have hR2:mapE int (zG a b)=(mapE int (x5 (yH (a++b)))).take (zG a b).length:=by
  rw [hR,x5,zk,zk,List.map_append,List.take_left' (by simp)]
 have hle:(zG a b).length≤(mapE int (x5 (yH (a++b)))).length:=by
  rw [hR,zq,compI_len];exact vW _
 have hRc:=zU (zG a b)
 rw [← hR] at hcc
 have hRl:(mapE int (zG a b)).length=(zG a b).length:=zq ..
 generalize mapE int a=ea at *
 generalize mapE int b=eb at *
 generalize mapE int (a++b)=w1 at *
 generalize mapE int (yH (a++b))=w2 at *
 generalize mapE int (x5 (yH (a++b)))=w3 at *
 generalize mapE int (zG a b)=wr at *
 generalize (a++b).length=m1 at *
 generalize (zG a b).length=rl at *
 refine zr ?_;unhygienic intros
 have hcI:AV.closedL [.isl 1 ea,.isl 1 eb]=true:=by simp [AV.closedL,haI,hbI]
 refine fB T140 [.t 4] ?_
 refine Aq ?_
 refine xu (F':=[(8,.isl 1 [.isl 1 ea,.isl 1 eb])]) (H':=[]) ?_ ?_
 · exact (zF [.isl 1 ([AV.isl 1 ea,AV.isl 1 eb])] [] ⟨⟨_,rfl,(zp _ hcI).symm⟩,trivial⟩ trivial ⟨.refl _,trivial⟩)
 refine on_ocall (args:=[.isl 1 [.isl 1 ea,.isl 1 eb]]) (v':=.sl 0 1 0 m1) (H':=[.arr 1 w1]) rfl rfl rfl h1 (by simpa [AV.closedL,AV.closed] using hcI) rfl (by simp [AObj.sub,zp _ c1]) ?_
 refine Aq ?_
 refine wO [0] rfl rfl enters_slices_Sort___int_int_ hss (by decide) (by simp) (by show _=[AObj.arr 1 (AV.subL _ w1)];rw [zp _ c1]) rfl ?_
 rintro v0 H' ⟨rfl,rfl⟩ -
 refine xu (F':=[(5,.sl 0 1 0 m1)]) (H':=[.arr 1 w2]) ?_ ?_
 · exact (eS [.to 0] [some 0])
 refine Aq ?_
 refine wO [0] rfl rfl enters_slices_Compact___int_int_ hcc (by decide) (by simp) (by show _=[AObj.arr 1 (AV.subL _ w2)];rw [zp _ c2]) rfl ?_
 rintro v0 H' ⟨rfl,rfl⟩ -
 refine xu (F':=[(13,.sl 0 1 0 rl)]) (H':=[.arr 1 w3]) ?_ ?_
 · exact (eS [.to 0] [some 0])
 refine Aq ?_
 refine zR rfl rfl ?_
 exact ⟨[.isl 1 w3],⟨⟨w3,rfl,(zp _ c3).symm⟩,trivial⟩,.of (sub_part rfl (by simpa using hle) (by simpa using hR2.symm))⟩
theorem P_Has (l:List Int) (n:Int) (hl:l.length<1048577):PCall EE 145 [.isl 1 (mapE int l),int n] (bool (decide (n∈l))):=by
 obtain ⟨R,hR⟩:∃ R,R=decide (n∈l):=⟨_,rfl⟩
 rw [← hR]
 have hcI:=zx l
 refine zr ?_;unhygienic intros
 generalize hes:mapE int l=es at *
 have hel:es.length=l.length:=by rw [← hes,zq]
 refine fB T145 [.t 4] ?_
 refine Aq ?_
 refine zf (ι:=List Int × List Int × Int) (fun p=>([(5,int p.2.2),(0,.isl 1 es),(1,int n)],[])) (fun p=>l=p.1++p.2.1∧p.2.2=p.1.length∧R=decide (n∈p.2.1)) (fun p=>p.2.1.length) ([],l,0) ⟨rfl,rfl,hR⟩ ?_ ?_
 · exact (eS [] [])
 rintro ⟨d,r,i⟩ ⟨g1,gi,gR⟩
 dsimp only at g1 gi gR ⊢
 cases r with
 | nil =>
  have L1:=zu g1
  try simp only [List.length] at L1
  have hc:iLt i (lenA es)=false:=yW e_iLt e_lenA (by omega)
  have gR:R=false:=by rw [gR];simp
  have fz:=hc
  refine Cq ?_
  refine Aq ?_
  refine zo ?_
  refine Aq ?_
  exact fBo (h:=gR.symm)
 | cons x r =>
  have L1:=zu g1
  try simp only [List.length] at L1
  have hc:iLt i (lenA es)=true:=yY e_iLt e_lenA (by omega)
  have hat:=zP e_atA hes g1 gi
  have hi2:iAdd .i64 i 1=((d++[x]).length:Int):=by rw [List.length_append];exact zJ e_iAdd gi (by omega)
  by_cases hx:x=n
  · have k1:iEq x n=true:=by simp only [ee];simpa using hx
    have gR:R=true:=by rw [gR,hx];simp
    have fz:=And.intro hc (And.intro hat k1)
    refine Cq ?_
    refine Cr ?_
    refine Aq ?_
    refine zl ?_
    refine Aq ?_
    exact fBo (h:=gR.symm)
  have k1:iEq x n=false:=by simp only [ee];simpa using hx
  have gR:R=decide (n∈r):=by rw [gR];simp [Ne.symm hx]
  have fz:=And.intro hc (And.intro hat k1)
  refine Cq ?_
  refine Cr ?_
  refine Aq ?_
  refine zw (d++[x],r,iAdd .i64 i 1) ⟨by simp [g1],hi2,gR⟩ (by simp) (eS [] [])
def uR (a b:List Int):Nat→List Int
 | 0=>[]
 | j+1=>uR a b j++(if (j:Int)∈a∨(j:Int)∈b then [(j:Int)] else [])
theorem uR_mem (a b:List Int) (n:Int):∀ j:Nat,n∈uR a b j↔0≤n∧n<j∧(n∈a∨n∈b)
 | 0=>by
  rw [uR]
  exact ⟨fun h=>absurd h (by simp),fun h=>absurd h.2.1 (by omega)⟩
 | j+1=>by
  rw [uR,List.mem_append,uR_mem a b n j]
  by_cases hn:n=j
  · by_cases h:(j:Int)∈a∨(j:Int)∈b
    · rw [if_pos h]
      exact ⟨fun _=>⟨by omega,by omega,by rw [hn];exact h⟩,fun _=>.inr (by simp [hn])⟩
    rw [if_neg h]
    refine ⟨?_,fun ⟨_,_,h3⟩=>absurd (hn ▸ h3) h⟩
    rintro (h1 | h1)
    · omega
    cases h1
  refine ⟨?_,fun ⟨h1,h2,h3⟩=>.inl ⟨h1,by omega,h3⟩⟩
  rintro (⟨h1,h2,h3⟩ | h1)
  · exact ⟨h1,by omega,h3⟩
  split at h1
  · exact absurd (by simpa using h1) hn
  cases h1
theorem uR_sorted (a b:List Int):∀ j:Nat,(uR a b j).Pairwise (· < ·)
 | 0=>List.Pairwise.nil
 | j+1=>by
  rw [uR,List.pairwise_append]
  refine ⟨uR_sorted a b j,?_,fun x hx y hy=>?_⟩
  · split
    · exact List.pairwise_singleton _ _
    exact List.Pairwise.nil
  have:=(uR_mem a b x j).1 hx
  split at hy
  · simp at hy;omega
  cases hy
theorem uR_uni {a b:List Int} (ha:VR a) (hb:VR b):zG a b=uR a b 16:=uni_ext (uR_sorted a b 16) fun n=>by
 rw [uR_mem]
 refine ⟨fun h=>h.2.2,fun h=>?_⟩
 have:0≤n∧n<16:=by
  rcases h with h | h
  · exact ha n h
  exact hb n h
 exact ⟨this.1,by omega,h⟩
theorem uR_len (a b:List Int):∀ j,(uR a b j).length≤j
 | 0=>by simp [uR]
 | j+1=>by
  rw [uR,List.length_append]
  have:=uR_len a b j
  split<;>simp<;>omega
theorem y9 (a b:List Int) (ha:VR a) (hb:VR b) (hla:a.length<1048577) (hlb:b.length<1048577):PCall EE 148 [.isl 1 (mapE int a),.isl 1 (mapE int b)] (.isl 1 (mapE int (zG a b))):=by
 rw [uR_uni ha hb]
 have q1:=fun n=>P_Has a n hla
 have q2:=fun n=>P_Has b n hlb
 have haI:=zx a
 have hbI:=zx b
 have hnil:mapE int []=[]:=by rw [zk];rfl
 have hR:∀ j,mapE int (uR a b (j+1))=mapE int (uR a b j)++(if (decide ((j:Int)∈a) || decide ((j:Int)∈b))=true then [int j] else []):=fun j=>by
  rw [uR,zk,zk,List.map_append]
  by_cases h:(j:Int)∈a∨(j:Int)∈b
  · rw [if_pos h,if_pos (by simpa using h)];rfl
  rw [if_neg h,if_neg (by simpa using h)];rfl
 have hRc:=fun j=>zU (uR a b j)
 have hRf:=fun j=>uO (uR a b j)
 have hRl:∀ j,(mapE int (uR a b j)).length≤j:=fun j=>by rw [zq];exact uR_len a b j
 have h0:uR a b 0=[]:=rfl
 generalize mapE int a=ea at *
 generalize mapE int b=eb at *
 refine zr ?_;unhygienic intros
 refine fB T148 [.t 4] ?_
 refine Aq ?_
 refine zf (ι:=Nat × Int × Nat × List AV) (fun p=>([(6,int p.2.1),(5,.sl 0 1 0 p.2.2.1),(0,.isl 1 ea),(1,.isl 1 eb)],[.arr 1 p.2.2.2])) (fun p=>p.2.1=p.1∧p.1≤16∧p.2.2.2=mapE int (uR a b p.1)∧p.2.2.1=p.2.2.2.length) (fun p=>16 - p.1) (0,0,0,[]) ⟨rfl,by decide,by rw [h0];exact hnil.symm,rfl⟩ ?_ ?_
 · exact (eS [] [none])
 rintro ⟨j,i,m,w⟩ ⟨gi,gj,gw,gm⟩
 dsimp only at gi gj gw gm ⊢
 have hcw:AV.closedL w=true:=by rw [gw];exact hRc j
 have hfw:wI 1 w=true:=by rw [gw];exact hRf j
 have hwl:w.length≤j:=by rw [gw];exact hRl j
 by_cases h16:j<16
 rotate_left
 · have hc:iLt i 16=false:=by simp only [ee];simp;omega
   have hj:j=16:=by omega
   subst hj
   rw [← gw]
   have fz:=hc
   refine Cq ?_
   refine Aq ?_
   refine zo ?_
   refine Aq ?_
   refine zR rfl rfl ?_
   exact ⟨[.isl 1 (w)],⟨⟨_,rfl,(zp _ hcw).symm⟩,trivial⟩,.of (yh rfl (by assumption))⟩
 have hc:iLt i 16=true:=by simp only [ee];simp;omega
 have hi2:iAdd .i64 i 1=((j+1:Nat):Int):=zJ e_iAdd gi (by omega)
 have q1:=q1 i
 have q2:=q2 i
 have hR:=hR j
 rw [← gi,← gw] at hR
 generalize decide (i∈a)=ba at *
 generalize decide (i∈b)=bb at *
 have u2:addN m (lenN (partA [int i] 0 1))=(catA (dropA w 0) (partA [int i] 0 1)).length:=by simp only [ee];simp [gm]
 have u3:AV.closedL (catA (dropA w 0) (partA [int i] 0 1))=true:=by simp only [ee];exact closedL_append (by simpa using hcw) rfl
 by_cases hab:(ba || bb)=true
 · rw [if_pos hab] at hR
   have u1:catA (dropA w 0) (partA [int i] 0 1)=mapE int (uR a b (j+1)):=by rw [hR];simp only [ee];simp
   cases ba with
   | true =>
    have fz:=hc
    refine Cq ?_
    refine Aq ?_
    refine oPA q1 ?_
    refine Aq ?_
    refine zw (j+1,iAdd .i64 i 1,addN m (lenN (partA [int i] 0 1)),catA (dropA w 0) (partA [int i] 0 1)) ⟨hi2,h16,u1,u2⟩ (by simp;omega) (eS [.gone,.gone,.to 0] [some 2])
   | false =>
    obtain rfl:bb=true:=by simpa using hab
    have fz:=hc
    refine Cq ?_
    refine Aq ?_
    refine oPA q1 ?_
    refine Aq ?_
    refine oPG q2 ?_
    refine Aq ?_
    refine zw (j+1,iAdd .i64 i 1,addN m (lenN (partA [int i] 0 1)),catA (dropA w 0) (partA [int i] 0 1)) ⟨hi2,h16,u1,u2⟩ (by simp;omega) (eS [.gone,.gone,.to 0] [some 2])
 rw [if_neg hab,List.append_nil] at hR
 obtain ⟨rfl,rfl⟩:ba=false∧bb=false:=by simpa using hab
 have fz:=hc
 refine Cq ?_
 refine Aq ?_
 refine oPA q1 ?_
 refine Aq ?_
 refine oPG q2 ?_
 refine Aq ?_
 refine zw (j+1,iAdd .i64 i 1,m,w) ⟨hi2,h16,hR.symm,gm⟩ (by simp;omega) (eS [.to 0] [some 0])
theorem P_Equal (l:List Int) (hl:l.length<1048577):PCall EE 23 [.isl 1 (mapE int l),.isl 1 (mapE int l)] (bool true):=by
 have hcI:=zx l
 refine zr ?_;unhygienic intros
 generalize hes:mapE int l=es at *
 have hel:es.length=l.length:=by rw [← hes,zq]
 have k0:iNe (lenA es) (lenA es)=false:=by simp only [ee];simp
 have k1:∀ x,iNe x x=false:=fun x=>by simp only [ee];simp
 refine fB T23 [.t 4] ?_
 have fz:=k0
 refine Cq ?_
 refine Aq ?_
 refine zf (ι:=List Int × List Int × Int) (fun p=>([(13,int p.2.2),(12,int (lenA es)),(0,.isl 1 es),(1,.isl 1 es)],[])) (fun p=>l=p.1++p.2.1∧p.2.2=p.1.length) (fun p=>p.2.1.length) ([],l,0) ⟨rfl,rfl⟩ ?_ ?_
 · exact (eS [] [])
 rintro ⟨d,r,i⟩ ⟨g1,gi⟩
 dsimp only at g1 gi ⊢
 cases r with
 | nil =>
  have L1:=zu g1
  try simp only [List.length] at L1
  have hc:iLt i (lenA es)=false:=yW e_iLt e_lenA (by omega)
  have fz:=hc
  refine Cq ?_
  refine Aq ?_
  refine zo ?_
  refine Aq ?_
  exact fV
 | cons x r =>
  have L1:=zu g1
  try simp only [List.length] at L1
  have hc:iLt i (lenA es)=true:=yY e_iLt e_lenA (by omega)
  have hat:=zP e_atA hes g1 gi
  have hi2:iAdd .i64 i 1=((d++[x]).length:Int):=by rw [List.length_append];exact zJ e_iAdd gi (by omega)
  have k2:=k1 x
  have fz:=And.intro hc (And.intro hat k2)
  refine Cq ?_
  refine Cr ?_
  refine Aq ?_
  refine zw (d++[x],r,iAdd .i64 i 1) ⟨by simp [g1],hi2⟩ (by simp) (eS [] [])
theorem PlcS_enc : PlcS.enc=.agg [.isl 1 [],.isl 1 [],int (-1)]:=by
 unfold Plc.enc PlcS
 have:mapE int []=[]:=by rw [zk];rfl
 dsimp only
 rw [this]
theorem lf_at (p:Pat) (l:Plc) (k:Nat):((Pat.lf l p).getD k (Pat0,Plc0)).1=p.nodes.getD k Pat0:=by
 rw [← Pat.lf_map p l,List.getD_eq_getElem?_getD,List.getD_eq_getElem?_getD,List.getElem?_map]
 cases (Pat.lf l p)[k]?<;>rfl
theorem enters_scope_walk : yr EE.P 99:=enters_of rfl (by decide) T99.2
structure Vr where
 nm:Bs
 ty:Int
structure EncBoxV where
 vr:Vr→AV
 hv:∀ v,vr v=.agg [str (ba v.nm),int v.ty]
theorem encBoxV_ne : Nonempty EncBoxV:=⟨⟨fun v=>.agg [str (ba v.nm),int v.ty],fun _=>rfl⟩⟩
noncomputable def Vr.enc (v:Vr):AV:=(Classical.choice encBoxV_ne).vr v
theorem Vr.enc_eq (v:Vr):v.enc=.agg [str (ba v.nm),int v.ty]:=(Classical.choice encBoxV_ne).hv v
theorem Vr.closed (v:Vr):v.enc.closed=true:=by rw [Vr.enc_eq];rfl
theorem Vr.closedL (l:List Vr):AV.closedL (mapE Vr.enc l)=true:=xZ Vr.closed l
theorem Vr.closedI (l:List Vr):(AV.isl 2 (mapE Vr.enc l)).closed=true:=by simp [AV.closed,Vr.closedL]
def wA (ts:List Sch) (vs:List Vr) (o v f k xk:Int):Int × Int :=
 if o=0 then (xk,0)
 else if ¬ v<vs.length then (0,6)
 else if o=2∨o=3 then (0,0)
 else match vs[v.toNat]? with
  | none=>(0,0)
  | some x=>match ts[x.ty.toNat]? with
   | none=>(0,0)
   | some s=>if ¬ f<s.fs.length then (0,6) else match s.fs[f.toNat]? with
    | none=>(0,0)
    | some g=>if o=4∧(g.kd≠xk∨wi k ⟨g.kd,0,⟨#[]⟩⟩=false) then (0,9) else (g.kd,0)
def fK (op h k:Int):Bool:=if op=5∨op=6∨op=7∨op=8 then decide (k=0) else if op=10∨op=11∨op=12 then decide (k=1) else if op=9 then decide (k=h) else true
def um (op:Int) (l:List Int):Int:=if l.all (fK op (l.headD 0)) then 0 else 9
mutual
noncomputable def Ex.kindK (ts:List Sch) (vs:List Vr):Ex→Int × Int
 | .mk o a v f k x=>if a=[] then wA ts vs o v f k x.kind else match Ex.kindsK ts vs a with
  | .inl e=>(0,e)
  | .inr l=>if um o l≠0 then (0,um o l) else if o=5∨o=6 then (0,0) else (1,0)
noncomputable def Ex.kindsK (ts:List Sch) (vs:List Vr):List Ex→Int ⊕ List Int
 | []=>.inr []
 | e :: r=>if (Ex.kindK ts vs e).2≠0 then .inl (Ex.kindK ts vs e).2 else match Ex.kindsK ts vs r with
  | .inl x=>.inl x
  | .inr l=>.inr ((Ex.kindK ts vs e).1 :: l)
end
mutual
def Ex.nn : Ex→Prop
 | .mk _ a v f _ _=>0≤v∧0≤f∧Ex.nnL a
def Ex.nnL : List Ex→Prop
 | []=>True
 | e :: r=>e.nn∧Ex.nnL r
end
end Go.Am
end
