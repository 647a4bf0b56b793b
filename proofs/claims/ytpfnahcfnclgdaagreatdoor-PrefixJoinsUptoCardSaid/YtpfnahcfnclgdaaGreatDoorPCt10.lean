/- Contracts of the program's functions. -/
import Derived.Test.YtpfnahcfnclgdaaGreatDoorProg
import Derived.Test.YtpfnahcfnclgdaaGreatDoorPCt9
noncomputable section
set_option maxHeartbeats 16000000
set_option maxRecDepth 100000
namespace Go.Am
open Go.Proofs
theorem fold_true : ∀ (l:List Pat) (s:Int × Int × Bool),(l.foldl wu s).2.2=true→s.2.2=true
 | [],s,h=>h
 | q :: r,s,h=>by
  have:=fold_true r (wu s q) h
  simp only [wu,Bool.and_eq_true] at this
  exact this.1.1
theorem fold_var : ∀ (l:List Pat) (s:Int × Int × Bool),(∀ q∈l,q.op=0)→(l.foldl wu s).2.2=true→∀ (i:Nat) q,l[i]? = some q→q.var=s.1+i
 | [],s,_,_,i,q,hi=>by simp at hi
 | x :: r,s,ho,h,i,q,hi=>by
  have hx:=ho x (by simp)
  have h1:=fold_true r (wu s x) h
  have e1:wu s x=(s.1+1,s.2.1,s.2.2 && (x.var == s.1)):=by
   have t0:yg 0=true:=by decide
   have s0:xw 0=false:=by decide
   simp [wu,hx,t0,s0]
  rw [e1] at h1
  simp only [Bool.and_eq_true,beq_iff_eq] at h1
  cases i with
  | zero =>
   simp only [List.getElem?_cons_zero,Option.some.injEq] at hi
   rw [← hi,h1.2];simp
  | succ i =>
   simp only [List.getElem?_cons_succ] at hi
   have:=fold_var r (wu s x) (fun q hq=>ho q (by simp [hq])) h i q hi
   rw [this,e1];push_cast;omega
theorem ev_args {q:Pat} (h:q.nodeE=0) (h0:q.op=0):q.args=[]:=by
 cases ha:q.args with
 | nil=>rfl
 | cons x r =>
  exfalso
  have hm:tp 0=0:=by decide
  unfold Pat.nodeE at h
  rw [h0,if_neg (by omega),if_pos (.inr (by rw [hm,ha,List.length_cons];omega))] at h
  cases h
theorem nodesL_ev : ∀ l:List Pat,(∀ q∈l,q.args=[])→Pat.nodesL l=l
 | [],_=>by simp [Pat.nodesL]
 | q :: r,h=>by
  have hq:=h q (by simp)
  rw [Pat.nodesL,nodesL_ev r fun z hz=>h z (by simp [hz])]
  have:q.nodes=[q]:=by
   obtain ⟨o,a,t,v,s,n,c⟩:=q
   have ha:a=[]:=hq
   rw [ha,Pat.nodes,Pat.nodesL]
  rw [this];rfl
theorem nEv_take : ∀ l:List Pat,∀ q∈l.take (nEv l),q.op=0
 | [],q,h=>by simp at h
 | x :: r,q,h=>by
  rw [nEv] at h
  cases hx:uE x with
  | false=>rw [hx] at h;simp at h
  | true =>
   rw [hx,if_pos rfl,List.take_succ_cons] at h
   rcases List.mem_cons.1 h with rfl | h
   · simpa [uE] using hx
   exact nEv_take r q h
theorem nEv_at : ∀ (l:List Pat) (q:Pat),l[nEv l]? = some q→q.op≠0
 | [],q,h=>by simp at h
 | x :: r,q,h=>by
  rw [nEv] at h
  cases hx:uE x with
  | false =>
   rw [hx] at h
   simp at h
   rw [← h]
   simpa [uE] using hx
  | true =>
   rw [hx,if_pos rfl,List.getElem?_cons_succ] at h
   exact nEv_at r q h
theorem chk_all {p:Pat} (h:p.chk=0):(yu p.nodes).2.2=true∧∀ q∈p.nodes,q.nodeE=0:=by
 obtain ⟨h1,h2⟩:=chk_zero h
 exact ⟨h2,(wholeE_ok h1).2.1⟩
theorem pre_ev {p:Pat} (h:p.chk=0):∀ (i:Nat) x,p.pre[i]? = some x→x.op=0∧x.var=i:=by
 obtain ⟨hf,hn⟩:=chk_all h
 rw [Pat.nodes_eq] at hf hn
 intro i x hi
 unfold Pat.pre at hi
 by_cases h0:p.op=0
 · rw [if_pos h0] at hi
   have hx:x=p∧i=0:=by
    cases i with
    | zero=>simp at hi;exact ⟨hi.symm,rfl⟩
    | succ i=>simp at hi
   obtain ⟨rfl,rfl⟩:=hx
   refine ⟨h0,?_⟩
   have h1:=cfold_pre [x] _ hf
   have:=fold_var [x] (0,0,true) (fun q hq=>by rw [List.mem_singleton.1 hq];exact h0) h1 0 x rfl
   rw [this];rfl
 rw [if_neg h0] at hi
 by_cases h1:p.op=1
 · rw [if_neg (by omega)] at hi
   have hop:=nEv_take p.args
   have hm:=List.mem_of_getElem? hi
   refine ⟨hop x hm,?_⟩
   have ha:∀ q∈p.args.take (nEv p.args),q.args=[]:=fun q hq=>ev_args (hn q (by
    refine List.mem_cons_of_mem _ ?_
    obtain ⟨l1,l2,hl⟩:=List.append_of_mem (List.mem_of_mem_take hq)
    rw [hl,Pat.nodesL_append,Pat.nodesL]
    simp [Pat.nodes_eq])) (hop q hq)
   rw [← List.take_append_drop (nEv p.args) p.args,Pat.nodesL_append,nodesL_ev _ ha,← List.cons_append] at hf
   have h2:=cfold_pre _ _ hf
   have e1:wu (0,0,true) p=(0,0,true):=by
    have t0:yg 1=false:=by decide
    have s0:xw 1=false:=by decide
    simp [wu,h1,t0,s0]
   rw [yu,List.foldl_cons,e1] at h2
   have:=fold_var _ (0,0,true) hop h2 i x hi
   rw [this];show 0+(i:Int)=i;omega
 rw [if_pos h1] at hi;simp at hi
def Pat.all (p:Pat):List Pat:=if p.whl then p.pre else if 1<p.args.length - p.pre.length then p.pre++p.rst.args else p.pre++[p.rst]
theorem sq {p:Pat} (h1:p.op=1):p.pre=p.args.take (nEv p.args)∧p.pre.length=nEv p.args∧p.whl=decide (nEv p.args=p.args.length)∧p.rst=(if nEv p.args=p.args.length then Pat0 else if nEv p.args=0 then p else xM 1 (p.args.drop (nEv p.args))):=by
 have e1:p.pre=p.args.take (nEv p.args):=by rw [Pat.pre,if_neg (by omega),if_neg (by omega)]
 refine ⟨e1,?_,?_,?_⟩
 · rw [e1,List.length_take];have:=t7 p.args;omega
 · rw [Pat.whl,if_neg (by omega),if_neg (by omega)]
 rw [Pat.rst,if_neg (by omega),if_neg (by omega)]
theorem listP_many {l:List Pat} (h:1<l.length):(xM 1 l).op=1∧(xM 1 l).args=l:=by
 match l,h with
 | a :: b :: r,_=>exact ⟨rfl,rfl⟩
theorem seq_rst {p:Pat} (h1:p.op=1) (_h2:2≤p.args.length) (hw:p.whl=false) (hl:1<p.args.length - p.pre.length):p.rst.op=1∧p.rst.args=p.args.drop p.pre.length:=by
 obtain ⟨e1,e2,e3,e4⟩:=sq h1
 rw [e3,decide_eq_false_iff_not] at hw
 rw [e4,if_neg hw,e2]
 rw [e2] at hl
 by_cases h0:nEv p.args=0
 · rw [if_pos h0,h0];exact ⟨h1,rfl⟩
 rw [if_neg h0];exact listP_many (by rw [List.length_drop];omega)
theorem seq_all {p:Pat} (h1:p.op=1) (h2:2≤p.args.length):p.all=p.args:=by
 obtain ⟨e1,e2,e3,e4⟩:=sq h1
 have hle:=t7 p.args
 unfold Pat.all
 by_cases hw:nEv p.args=p.args.length
 · rw [e3,decide_eq_true hw,if_pos rfl,e1,hw,List.take_length]
 rw [e3,decide_eq_false hw,if_neg (by decide),e2]
 by_cases hl:1<p.args.length - nEv p.args
 · rw [if_pos hl,(seq_rst h1 h2 (by rw [e3,decide_eq_false hw]) (by rw [e2];exact hl)).2,e2,e1,List.take_append_drop]
 rw [if_neg hl,e4,if_neg hw,if_neg (by omega),e1]
 obtain ⟨z,hz⟩:∃ z,p.args[nEv p.args]? = some z:=⟨_,List.getElem?_eq_getElem (by omega)⟩
 have hlt:nEv p.args<p.args.length:=by omega
 have hd:p.args.drop (nEv p.args)=[z]:=by
  rw [List.drop_eq_getElem_cons hlt,(List.getElem?_eq_some_iff.1 hz).2,List.drop_of_length_le (by omega)]
 rw [hd,listP_one]
 conv=>rhs;rw [← List.take_append_drop (nEv p.args) p.args,hd]
theorem seq_left {p:Pat} (h1:p.op=1):p.whl=decide (p.args.length - p.pre.length=0):=by
 obtain ⟨e1,e2,e3,e4⟩:=sq h1
 have hle:=t7 p.args
 rw [e3,e2,Bool.eq_iff_iff]
 simp only [decide_eq_true_eq]
 omega
def Ex.few (e:Ex):Bool:=decide (e.cnt≤200) && decide (e.dep≤100)
def Pat.few (p:Pat):Bool:=decide (p.cnt≤150) && decide (p.dep≤60) && p.nodes.all (fun q=>q.cond.few)
theorem P_ref08_Few (e:Ex) (hs:e.Sm):PCall EE 40 [e.enc] (bool e.few):=by
 have h1:PCall EE 84 [e.enc,int 200] (int (e.tot 200)):=P_ref08_Count 200 (by omega) e hs
 have h2:=P_ref08_Depth e hs
 have hcl:=Ex.closed e
 obtain ⟨R,hR⟩:∃ R,R=e.few:=⟨_,rfl⟩
 rw [← hR]
 unfold Ex.few at hR
 have ht:=Ex.tot_iff e 200
 obtain ⟨eO,eA,eV,eF,eK,eXk,eXn,eXt,hx⟩:=Ex.form e
 rw [hx] at h1 h2 hcl ⊢
 refine zo ?_;unhygienic intros
 generalize ht1:(e.tot 200:Int)=tn at *
 generalize ht2:(e.dep:Int)=dn at *
 refine fB T40 [.t 2] ?_
 by_cases hc1:e.cnt≤200
 · have w1:iLe tn 200=true:=by simp only [ee];simp;omega
   by_cases hc2:e.dep≤100
   · have w2:iLe dn 100=true:=by simp only [ee];simp;omega
     have hR:R=true:=by rw [hR];simp [hc1,hc2]
     refine Aq ?_
     refine oPA h1 ?_
     have fz:=And.intro w1 w2
     refine Cq ?_
     refine Aq ?_
     refine oPG h2 ?_
     refine Aq ?_
     exact fBo (h:=by rw [w2,hR];simp [ee])
   have w2:iLe dn 100=false:=by simp only [ee];simp;omega
   have hR:R=false:=by rw [hR];simp [hc2]
   refine Aq ?_
   refine oPA h1 ?_
   have fz:=And.intro w1 w2
   refine Cq ?_
   refine Aq ?_
   refine oPG h2 ?_
   refine Aq ?_
   exact fBo (h:=by rw [w2,hR];simp [ee])
 have w1:iLe tn 200=false:=by simp only [ee];simp;omega
 have hR:R=false:=by rw [hR];simp [hc1]
 refine Aq ?_
 refine oPA h1 ?_
 have fz:=w1
 refine Cq ?_
 refine Aq ?_
 refine zZ rfl rfl ?_
 refine Aq ?_
 exact fBo (h:=hR.symm)
theorem P_ref09_Few (p:Pat) (hs:p.Sm):PCall EE 11 [p.enc] (bool p.few):=by
 have h1:PCall EE 37 [p.enc,int 150] (int (p.tot 150)):=P_ref09_Total 150 (by omega) p hs
 have h2:=P_ref09_Depth p hs
 have h3:=P_ref09_Nodes p hs
 have hsn:=hs.node
 have hnl:=Pat.nodes_len p
 have hcn:=hs.1
 have hcl:=Pat.closed p
 have hcn2:=Pat.closedI p.nodes
 obtain ⟨R,hR⟩:∃ R,R=p.few:=⟨_,rfl⟩
 rw [← hR]
 unfold Pat.few at hR
 have ht:=Pat.tot_iff p 150
 obtain ⟨pO,pA,pT,pV,pS,pN,pCo,pCa,pCv,pCf,pCk,pXk,pXn,pXt,hx⟩:=Pat.form p
 rw [hx] at h1 h2 h3 hcl ⊢
 refine zo ?_;unhygienic intros
 generalize ht1:(p.tot 150:Int)=tn at *
 generalize ht2:(p.dep:Int)=dn at *
 generalize hnod:p.nodes=nl at *
 generalize hes:zy Pat.enc nl=es at *
 have hel:es.length=nl.length:=by rw [← hes,zp]
 refine fB T11 [.t 2] ?_
 by_cases hc1:p.cnt≤150
 rotate_left
 · have w1:iLt 150 tn=true:=by simp only [ee];simp;omega
   have hR:R=false:=by rw [hR];simp [hc1]
   refine Aq ?_
   refine oPA h1 ?_
   have fz:=w1
   refine Cq ?_
   refine Aq ?_
   refine zZ rfl rfl ?_
   refine Aq ?_
   exact fBo (h:=hR.symm)
 have w1:iLt 150 tn=false:=by simp only [ee];simp;omega
 by_cases hc2:p.dep≤60
 rotate_left
 · have w2:iLt 60 dn=true:=by simp only [ee];simp;omega
   have hR:R=false:=by rw [hR];simp [hc2]
   refine Aq ?_
   refine oPA h1 ?_
   have fz:=And.intro w1 w2
   refine Cq ?_
   refine Aq ?_
   refine oPG h2 ?_
   refine Cq ?_
   refine oC (fun c1=>?_) fun c1=>?_
   ·
    simp [ee] at c1
    refine Aq ?_
    exact fBo (h:=hR.symm)
   simp [ee] at c1
 have w2:iLt 60 dn=false:=by simp only [ee];simp;omega
 have hR:R=nl.all (fun q=>q.cond.few):=by rw [hR];simp [hc1,hc2]
 have hor:∀ b,bOr false b=b:=by simp [ee]
 refine Aq ?_
 refine oPA h1 ?_
 have fz:=And.intro w1 (And.intro w2 hor)
 refine Cq ?_
 refine Aq ?_
 refine oPG h2 ?_
 refine Cq ?_
 refine Aq ?_
 refine oPA h3 ?_
 refine Aq ?_
 refine ze (ι:=List Pat × List Pat × Int) (fun p=>([(3,.isl 14 es),(4,int p.2.2)],[])) (fun p=>nl=p.1++p.2.1∧p.2.2=p.1.length∧R=p.2.1.all (fun q=>q.cond.few)) (fun p=>p.2.1.length) ([],nl,0) ⟨rfl,rfl,hR⟩ ?_ ?_
 · exact (eS [.gone] [])
 rintro ⟨d,r,i⟩ ⟨g1,gi,gR⟩
 dsimp only at g1 gi gR ⊢
 cases r with
 | nil =>
  have L1:=lS g1
  have hc:iLt i (lenA es)=false:=xR e_iLt e_lenA (by omega)
  have gR:R=true:=by rw [gR];rfl
  have fz:=hc
  refine Cq ?_
  refine Aq ?_
  refine zk ?_
  refine Aq ?_
  exact fBo (h:=gR.symm)
 | cons q r =>
  have L1:=lS g1
  have hc:iLt i (lenA es)=true:=xU e_iLt e_lenA (by omega)
  have hat:=yX e_atA hes g1 gi
  have hqs:q.Sm:=hsn q (by rw [g1];simp)
  have hq:=P_ref08_Few q.cond hqs.cond'
  have hqc:=Ex.closed q.cond
  rw [List.all_cons] at gR
  obtain ⟨qO,qA,qT,qV,qS,qN,qCo,qCa,qCv,qCf,qCk,qXk,qXn,qXt,hx2,hx2c,hqO,hqA,hqT,hqV,hqS,hqN⟩:=Pat.form2 q
  rw [hx2c] at hq hqc
  rw [hx2] at hat
  have hi2:iAdd .i64 i 1=((d++[q]).length:Int):=by rw [List.length_append];exact yh e_iAdd gi (by omega)
  cases hb:q.cond.few with
  | true =>
   rw [hb] at hq gR
   have hnt:bNot true=false:=by simp [ee]
   have fz:=And.intro hc (And.intro hat hnt)
   refine Cq ?_
   refine Cr ?_
   refine oPA hq ?_
   refine Cq ?_
   refine Aq ?_
   refine zm (d++[q],r,iAdd .i64 i 1) ⟨by simp [g1],hi2,by simpa using gR⟩ (by simp) (eS [] [])
  | false =>
   rw [hb] at hq gR
   have gR:R=false:=by simpa using gR
   have hnf:bNot false=true:=by simp [ee]
   have fz:=And.intro hc (And.intro hat hnf)
   refine Cq ?_
   refine Cr ?_
   refine oPA hq ?_
   refine Cq ?_
   refine Aq ?_
   refine zf ?_
   refine Aq ?_
   exact fBo (h:=gR.symm)
end Go.Am
end
