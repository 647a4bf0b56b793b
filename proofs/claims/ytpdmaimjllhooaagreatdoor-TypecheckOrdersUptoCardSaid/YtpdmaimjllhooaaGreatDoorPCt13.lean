/- Contracts of the program's functions. -/
import Derived.Test.YtpdmaimjllhooaaGreatDoorCards
import Derived.Test.YtpdmaimjllhooaaGreatDoorProg
import Derived.Test.YtpdmaimjllhooaaGreatDoorRows
import Derived.Test.YtpdmaimjllhooaaGreatDoorTie
import Derived.Test.YtpdmaimjllhooaaGreatDoorPCt9
import Derived.Test.YtpdmaimjllhooaaGreatDoorPCt11
import Derived.Test.YtpdmaimjllhooaaGreatDoorPCt10
section
set_option maxHeartbeats 16000000
set_option maxRecDepth 100000
namespace Go.Am
open Go.Proofs
structure x9 (ts:List Sch):Prop where
 len:ts.length<1048577
 sh:∀ q∈ts,q.Short
 fs:∀ q∈ts,q.fs.length<1048577
def tyB (ts:List Sch) (v:Vr):Bool:=decide (0≤v.ty∧v.ty<(ts.length:Int))
def x5 (ts:List Sch) (vs:List Vr):Int:=if 16<vs.length then 5 else if vs.all (tyB ts) then 0 else 6
noncomputable def kindP (ts:List Sch) (vs:List Vr) (e:Ex):Int × Int:=if zU ts≠0 then (0,zU ts) else if x5 ts vs≠0 then (0,x5 ts vs) else if e.chk≠0 then (0,e.chk) else e.kindK ts vs
noncomputable def cndE (ts:List Sch) (vs:List Vr) (e:Ex):Int:=if (kindP ts vs e).2≠0 then (kindP ts vs e).2 else if (kindP ts vs e).1≠1 then 9 else 0
theorem Ex.nodeE_nn {q:Ex} (h:q.nodeE=0):0≤q.var∧0≤q.fld∧(q.op=4→1≤q.kind):=by
 unfold Ex.nodeE at h
 split at h
 · cases h
 split at h
 · cases h
 split at h
 · cases h
 rename_i h3
 split at h
 · cases h
 rename_i h4
 split at h
 · rename_i h5;exact absurd h h5.2
 split at h
 · rename_i h6
   obtain ⟨f1,f2,f3,f4⟩:=h6
   refine ⟨?_,?_,fun e=>Int.not_lt.1 fun hh=>h4 ⟨e,.inl hh⟩⟩
   · rcases f1 with f1 | f1
     · exact Int.not_lt.1 fun hh=>h3 (.inl ⟨f1,.inl hh⟩)
     omega
   rcases f2 with f2 | f2
   · exact Int.not_lt.1 fun hh=>h3 (.inr ⟨f2,.inl hh⟩)
   omega
 cases h
theorem Ex.chk_nn {e:Ex} (h:e.chk=0):∀ q∈e.nodes,0≤q.var∧0≤q.fld∧(q.op=4→1≤q.kind):=fun q hq=>Ex.nodeE_nn (Ex.chk_nodes h q hq)
theorem varsR_in {ts:List Sch} {vs:List Vr} (h:x5 ts vs=0):vs.length≤16∧∀ v∈vs,0≤v.ty∧v.ty<(ts.length:Int):=by
 unfold x5 at h
 split at h
 · cases h
 split at h
 · rename_i h1 h2
   rw [List.all_eq_true] at h2
   exact ⟨by omega,fun v hv=>by have:=h2 v hv;simpa [tyB] using this⟩
 cases h
theorem varsR_bad {ts:List Sch} {vs d r:List Vr} {v:Vr} (hl:¬ 16<vs.length) (h:vs=d++v :: r) (hv:tyB ts v=false):x5 ts vs=6:=by
 rw [x5,if_neg hl,if_neg]
 intro h2
 rw [List.all_eq_true] at h2
 rw [h2 v (by rw [h];simp)] at hv
 cases hv
theorem varsR_good {ts:List Sch} {vs:List Vr} (hl:¬ 16<vs.length) (h:vs.all (tyB ts)=true):x5 ts vs=0:=by rw [x5,if_neg hl,if_pos h]
theorem P_Kind (ts:List Sch) (vs:List Vr) (e:Ex) (hts:x9 ts) (hvs:vs.length<1048577) (he:e.Sm):PCall EE 46 [.isl 2 (mapE Sch.enc ts),.isl 2 (mapE Vr.enc vs),e.enc] (.tup [int (kindP ts vs e).1,int (kindP ts vs e).2]):=by
 have p1:=P_CheckAll ts (by have:=hts.len;omega) hts.sh
 have p2:=P_expr_Check e he
 have p3:x5 ts vs=0→e.chk=0→_:=fun h h2=>P_kind ts vs (fun q a b=>P_leaf ts vs q hts.len hvs hts.fs (varsR_in h).2 a b) (fun op l hl=>P_operands op l hl) e he fun q hq=>⟨(Ex.chk_nn h2 q hq).1,(Ex.chk_nn h2 q hq).2.1⟩
 have kts:=Sch.closedI ts
 have kvs:=Vr.closedI vs
 have kec:=Ex.closed e
 have htl:=hts.len
 obtain ⟨⟨R1,R2⟩,hR⟩:∃ R,R=kindP ts vs e:=⟨_,rfl⟩
 rw [← hR]
 rw [kindP] at hR
 have hel:(mapE Sch.enc ts).length=ts.length:=zr ..
 have hev:(mapE Vr.enc vs).length=vs.length:=zr ..
 generalize mapE Sch.enc ts=ets at *
 obtain ⟨ce,hce⟩:∃ z,z=zU ts:=⟨_,rfl⟩
 rw [← hce] at p1 hR
 obtain ⟨ec,hec⟩:∃ z,z=e.chk:=⟨_,rfl⟩
 rw [← hec] at p2 p3 hR
 obtain ⟨z1,hz1⟩:∃ z,z=(Ex.kindK ts vs e).1:=⟨_,rfl⟩
 obtain ⟨z2,hz2⟩:∃ z,z=(Ex.kindK ts vs e).2:=⟨_,rfl⟩
 have hz:Ex.kindK ts vs e=(z1,z2):=by rw [hz1,hz2]
 rw [hz] at p3 hR
 dsimp only at p3
 obtain ⟨eO,eA,eV,eF,eK,eXk,eXn,eXt,hx⟩:=Ex.form e
 rw [hx] at p2 p3 kec ⊢
 have keA:(AV.isl 8 eA).closed=true:=by have:=kec;simp [AV.closed,AV.closedL] at this ⊢;exact this
 generalize hes:mapE Vr.enc vs=evs at *
 clear hx hec hce hz hz1 hz2
 refine zt ?_;unhygienic intros
 have n0:iNe 0 0=false:=by simp only [ee];rfl
 refine fB T46 [.t 6,.t 7] ?_
 by_cases h1:ce=0
 rotate_left
 · rw [if_pos h1] at hR
   injection hR with hR1 hR2
   rw [hR1,hR2]
   have q1:iNe ce 0=true:=by simp only [ee];simpa using h1
   clear p2 p3
   refine Aq ?_
   refine oPA p1 ?_
   have fz:=q1
   refine Cq ?_
   refine Aq ?_
   exact fE [.gone]
 rw [if_neg (by omega)] at hR
 subst h1
 by_cases h16:16<vs.length
 · have k16:iLt 16 (lenA evs)=true:=by simp only [ee];simp;omega
   have hv5:x5 ts vs=5:=by rw [x5,if_pos h16]
   rw [hv5,if_pos (by decide)] at hR
   injection hR with hR1 hR2
   rw [hR1,hR2]
   clear p2 p3
   refine Aq ?_
   refine oPA p1 ?_
   have fz:=And.intro n0 k16
   refine Cq ?_
   refine Cr ?_
   refine Aq ?_
   exact fE [.gone]
 have k16:iLt 16 (lenA evs)=false:=by simp only [ee];simp;omega
 refine Aq ?_
 refine oPA p1 ?_
 have fz:=n0
 refine Cq ?_
 have fz:=k16
 refine Cr ?_
 refine Cr ?_
 refine Aq ?_
 refine za (ι:=List Vr × List Vr × Int) (fun p=>([(22,int p.2.2),(21,int (lenA evs)),(20,.isl 2 evs),(5,.ptr 0 0),(1,.isl 2 evs),(0,.isl 2 ets)],[.cells [int eO,.isl 8 eA,int eV,int eF,int eK,int eXk,int eXn,str eXt]])) (fun p=>vs=p.1++p.2.1∧p.2.2=p.1.length∧p.1.all (tyB ts)=true) (fun p=>p.2.1.length) ([],vs,0) ⟨rfl,rfl,rfl⟩ ?_ ?_
 · exact (eS [.to 0] [some 0])
 rintro ⟨d,r,i⟩ ⟨g1,gi,ga⟩
 dsimp only at g1 gi ga ⊢
 cases r with
 | nil =>
  have L1:=zw g1
  try simp only [List.length] at L1
  have hc:iLt i (lenA evs)=false:=xg e_iLt e_lenA (by omega)
  rw [List.append_nil] at g1
  rw [← g1] at ga
  have hv0:=varsR_good h16 ga
  rw [hv0,if_neg (by decide)] at hR
  replace p3:=p3 hv0
  by_cases h2:ec=0
  rotate_left
  · have q1:iNe ec 0=true:=by simp only [ee];simpa using h2
    rw [if_pos h2] at hR
    injection hR with hR1 hR2
    rw [hR1,hR2]
    clear p3
    have fz:=And.intro hc q1
    refine Cq ?_
    refine Aq ?_
    refine zl ?_
    refine Aq ?_
    refine oPA p2 ?_
    refine Cq ?_
    refine Aq ?_
    exact fE [.gone]
  rw [if_neg (by omega)] at hR
  replace p3:=p3 h2
  subst h2
  injection hR with hR1 hR2
  rw [hR1,hR2]
  have fz:=And.intro hc n0
  refine Cq ?_
  refine Aq ?_
  refine zl ?_
  refine Aq ?_
  refine oPA p2 ?_
  refine Cq ?_
  refine Aq ?_
  refine oPA p3 ?_
  refine Aq ?_
  exact fE [.gone]
 | cons v r =>
  have L1:=zw g1
  try simp only [List.length] at L1
  have hc:iLt i (lenA evs)=true:=xf e_iLt e_lenA (by omega)
  have hat:=z7 e_atA hes g1 gi
  rw [Vr.enc_eq] at hat
  have hi2:iAdd .i64 i 1=((d++[v]).length:Int):=by rw [List.length_append];exact yq e_iAdd gi (by omega)
  have hgood:tyB ts v=true→(d++[v]).all (tyB ts)=true:=fun e=>by rw [List.all_append,ga];simp [e]
  have hbad:tyB ts v=false→x5 ts vs=6:=varsR_bad h16 g1
  have htB:tyB ts v=decide (0≤v.ty∧v.ty<(ts.length:Int)):=rfl
  rw [htB] at hgood hbad
  clear p2 p3 p1 htB
  generalize v.ty=ty at *
  generalize ba v.nm=nm at *
  by_cases n1:ty<0
  · have q1:iLt ty 0=true:=by simp only [ee];simpa using n1
    rw [hbad (by simp;omega),if_pos (by decide)] at hR
    injection hR with hR1 hR2
    rw [hR1,hR2]
    clear hgood
    have fz:=And.intro hc (And.intro hat q1)
    refine Cq ?_
    refine Cr ?_
    refine oC (fun c1=>?_) fun c1=>?_
    ·
     simp [ee] at c1
     refine Aq ?_
     refine zi ?_
     refine Aq ?_
     exact fE [.gone,.gone]
    simp [ee] at c1
  have q1:iLt ty 0=false:=by simp only [ee];simpa using n1
  by_cases n2:(ts.length:Int)≤ty
  · have q2:iLe (lenA ets) ty=true:=by simp only [ee];simp;omega
    rw [hbad (by simp;omega),if_pos (by decide)] at hR
    injection hR with hR1 hR2
    rw [hR1,hR2]
    clear hgood
    have fz:=And.intro hc (And.intro hat (And.intro q1 q2))
    refine Cq ?_
    refine Cr ?_
    refine oC (fun c1=>?_) fun c1=>?_
    ·
     simp [ee] at c1
     refine Aq ?_
     refine zi ?_
     refine Aq ?_
     exact fE [.gone,.gone]
    simp [ee] at c1
  have q2:iLe (lenA ets) ty=false:=by simp only [ee];simp;omega
  have hgood:=hgood (by simp;omega)
  clear hbad hR
  have fz:=And.intro hc (And.intro hat (And.intro q1 q2))
  refine Cq ?_
  refine Cr ?_
  refine oC (fun c1=>?_) fun c1=>?_
  ·
   simp [ee] at c1
  simp [ee] at c1
  refine Aq ?_
  refine zp (d++[v],r,iAdd .i64 i 1) ⟨by rw [g1];simp,hi2,hgood⟩ (by simp) (eS [.to 0,.gone] [some 0])
theorem P_Condition (ts:List Sch) (vs:List Vr) (e:Ex) (hts:x9 ts) (hvs:vs.length<1048577) (he:e.Sm):PCall EE 14 [.isl 2 (mapE Sch.enc ts),.isl 2 (mapE Vr.enc vs),e.enc] (int (cndE ts vs e)):=by
 have p1:=P_Kind ts vs e hts hvs he
 have kts:=Sch.closedI ts
 have kvs:=Vr.closedI vs
 have kec:=Ex.closed e
 obtain ⟨R,hR⟩:∃ R,R=cndE ts vs e:=⟨_,rfl⟩
 rw [← hR]
 rw [cndE] at hR
 generalize (kindP ts vs e).1=z1 at *
 generalize (kindP ts vs e).2=z2 at *
 generalize mapE Sch.enc ts=ets at *
 generalize mapE Vr.enc vs=evs at *
 obtain ⟨eO,eA,eV,eF,eK,eXk,eXn,eXt,hx⟩:=Ex.form e
 rw [hx] at p1 kec ⊢
 clear hx
 refine zt ?_;unhygienic intros
 refine fB T14 [.t 6] ?_
 refine Aq ?_
 refine oPA p1 ?_
 refine goA 0 ?_
 refine oC (fun c1=>?_) fun c1=>?_
 ·
  simp [ee] at c1
  refine Aq ?_
  exact fI (h:=by rw [hR];(repeat' split)<;>first | rfl | omega)
 simp [ee] at c1
 refine goA 0 ?_
 refine oC (fun c2=>?_) fun c2=>?_
 ·
  simp [ee] at c2
  refine Aq ?_
  exact fI (h:=by rw [hR];(repeat' split)<;>first | rfl | omega)
 simp [ee] at c2
 refine Aq ?_
 exact fI (h:=by rw [hR];(repeat' split)<;>first | rfl | omega)
theorem P_lxletter (n:Int):PCall EE 118 [u8 n] (bool (xY n)):=by
 obtain ⟨b,hb⟩:∃ b,b=xY n:=⟨_,rfl⟩
 rw [← hb]
 simp only [xY] at hb
 refine zt ?_;unhygienic intros
 refine fB T118 [.t 2] ?_
 refine goA 0 ?_
 refine nsB hX (by conv=>lhs;cbv) ?_
 refine goA 0 ?_
 refine nsB hX (by conv=>lhs;cbv) ?_
 refine Aq ?_
 refine zD rfl rfl (.val ?_)
 (clear hX;subst hb;exact congrArg Value.bool (by simp only [ee] at *;grind))
theorem P_lxdigit (n:Int):PCall EE 114 [u8 n] (bool (xe n)):=by
 obtain ⟨b,hb⟩:∃ b,b=xe n:=⟨_,rfl⟩
 rw [← hb]
 simp only [xe] at hb
 refine zt ?_;unhygienic intros
 refine fB T114 [.t 2] ?_
 refine Aq ?_
 refine zD rfl rfl (.val ?_)
 (clear hX;subst hb;exact congrArg Value.bool (by simp only [ee] at *;grind))
theorem P_lxName1 (n:Int):PCall EE 117 [u8 n] (bool (!(xY n || xe n))):=by
 have p1:=P_lxletter n
 have p2:=P_lxdigit n
 generalize xY n=bl at *
 generalize xe n=bd at *
 refine zt ?_;unhygienic intros
 have n0:bNot false=true:=by simp only [ee];rfl
 have n1:bNot true=false:=by simp only [ee];rfl
 refine fB T117 [.t 2] ?_
 cases bl with
 | true =>
  refine Aq ?_
  refine oPA p1 ?_
  have fz:=And.intro n0 n1
  refine Cq ?_
  refine Aq ?_
  refine zg rfl rfl ?_
  refine Aq ?_
  exact fV
 | false =>
  cases bd with
  | true =>
   refine Aq ?_
   refine oPA p1 ?_
   have fz:=And.intro n0 n1
   refine Cq ?_
   refine Aq ?_
   refine oPG p2 ?_
   refine Aq ?_
   exact fBo (h:=by simp only [ee];rfl)
  | false =>
   refine Aq ?_
   refine oPA p1 ?_
   have fz:=And.intro n0 n1
   refine Cq ?_
   refine Aq ?_
   refine oPG p2 ?_
   refine Aq ?_
   exact fBo (h:=by simp only [ee];rfl)
def u8A (n:Int):AV:=.val (.int .u8 n)
theorem closedI_u8 (l:List Int):(AV.isl 1 (mapE u8A l)).closed=true:=by
 have:AV.closedL (mapE u8A l)=true:=xb (fun _=>rfl) l
 simp [AV.closed,this]
theorem P_IndexFuncB (g:FuncId) (cs:List AV) (hcs:AV.closedL cs=true) (f:Int→Bool) (l:List Int) (hl:l.length<1048577) (hg:∀ x∈l,PCall EE g ([u8 x]++cs) (bool (f x))):PCall EE 152 [.isl 1 (mapE u8A l),.fn g cs] (int (uk f l 0)):=by
 obtain ⟨j,hj⟩:∃ j,j=uk f l 0:=⟨_,rfl⟩
 rw [← hj]
 have hcl:=closedI_u8 l
 have hfn:(AV.fn g cs).closed=true:=by simp [AV.closed,hcs]
 refine zt ?_;unhygienic intros
 generalize hes:mapE u8A l=es at *
 have hel:es.length=l.length:=by rw [← hes,zr]
 refine fB T152 [.t 4] ?_
 refine Aq ?_
 refine za (ι:=List Int × List Int × Int) (fun p=>([(8,int p.2.2),(7,int (lenA es)),(0,.isl 1 es),(1,.fn g cs)],[])) (fun p=>l=p.1++p.2.1∧p.2.2=p.1.length∧j=uk f p.2.1 p.2.2) (fun p=>p.2.1.length) ([],l,0) ⟨rfl,rfl,hj⟩ ?_ ?_
 · exact (eS [] [])
 rintro ⟨d,r,i⟩ ⟨g1,gi,gv⟩
 dsimp only at g1 gi gv ⊢
 cases r with
 | nil =>
  have L1:=zw g1
  try simp only [List.length] at L1
  have hc:iLt i (lenA es)=false:=xg e_iLt e_lenA (by omega)
  rw [uk] at gv
  have fz:=hc
  refine Cq ?_
  refine Aq ?_
  refine zl ?_
  refine Aq ?_
  exact fI (h:=gv.symm)
 | cons q r =>
  have L1:=zw g1
  try simp only [List.length] at L1
  have hc:iLt i (lenA es)=true:=xf e_iLt e_lenA (by omega)
  have hat:=z7 e_atA hes g1 gi
  have hq:=hg q (by rw [g1];simp)
  have hi2:iAdd .i64 i 1=((d++[q]).length:Int):=by rw [List.length_append];exact yq e_iAdd gi (by omega)
  rw [uk] at gv
  have hat:atA es i=u8 q:=hat
  cases hfq:f q with
  | true =>
   rw [hfq] at hq gv
   rw [if_pos rfl] at gv
   have fz:=And.intro hc hat
   refine Cq ?_
   refine Cr ?_
   refine yI (args:=[u8 q]++cs) rfl rfl rfl rfl hq (by simp [AV.closedL,y6,hcs]) ?_
   refine Cq ?_
   refine Aq ?_
   refine zi ?_
   refine Aq ?_
   exact fI (h:=gv.symm)
  | false =>
   rw [hfq] at hq gv
   rw [if_neg (by decide)] at gv
   have gv2:j=uk f r (iAdd .i64 i 1):=by rw [gv,hi2,gi];simp
   have fz:=And.intro hc hat
   refine Cq ?_
   refine Cr ?_
   refine yI (args:=[u8 q]++cs) rfl rfl rfl rfl hq (by simp [AV.closedL,y6,hcs]) ?_
   refine Cq ?_
   refine Aq ?_
   refine zp (d++[q],r,iAdd .i64 i 1) ⟨by simp [g1],hi2,gv2⟩ (by simp) (eS [] [])
theorem P_ContainsFuncB (g:FuncId) (cs:List AV) (hcs:AV.closedL cs=true) (f:Int→Bool) (l:List Int) (hl:l.length<1048577) (hg:∀ x∈l,PCall EE g ([u8 x]++cs) (bool (f x))):PCall EE 116 [.isl 1 (mapE u8A l),.fn g cs] (bool (l.any f)):=by
 have h1:=P_IndexFuncB g cs hcs f l hl hg
 have hj:=idxW_any f l 0 (by omega)
 generalize uk f l 0=j at *
 have hcl:=closedI_u8 l
 have hfn:(AV.fn g cs).closed=true:=by simp [AV.closed,hcs]
 obtain ⟨R,hR⟩:∃ R,R=l.any f:=⟨_,rfl⟩
 rw [← hR] at hj ⊢
 refine zt ?_;unhygienic intros
 generalize mapE u8A l=es at *
 refine fB T116 [.t 4] ?_
 have hRe:iLe 0 j=R:=by simp only [ee];rw [Bool.eq_iff_iff];simp [hj]
 refine Aq ?_
 refine oPA h1 ?_
 refine Aq ?_
 exact fBo (h:=hRe)
theorem nmE_nil : nmE []=8:=by decide
theorem nmE_long {s:Bs} (h:24<s.length):nmE s=8:=by
 rw [nmE,if_neg];simp [nmB,nameB];intro h2;omega
theorem nmE_prog {s:Bs} {c:UInt8} {r:Bs} (h:s=c :: r) (hl:s.length≤24):nmE s=if xe (ch c)=true then 8 else if kwB s=true then 8 else if s.all vT=false then 8 else 0:=by
 rw [nmE,nmB,nameB.eq_def]
 subst h
 cases hd:xe (ch c)<;>cases hk:kwB (c :: r)<;>cases ha:(c :: r).all vT<;>simp_all
theorem okCh_any : ∀ s:Bs,(s.map ch).any (fun n=>!(xY n || xe n)) = !s.all vT
 | []=>rfl
 | c :: r=>by rw [List.map_cons,List.any_cons,okCh_any r,List.all_cons,vT];simp [Bool.not_and]
theorem P_Keyword (s:Bs) (hs:s.length<1048577):PCall EL 115 [str (ba s)] (bool (kwB s)):=by
 have p1:=P_strContains s [32] (by omega)
 have p2:=P_strContains (kwS kws) ([32]++s++[32]) (by rw [kwS_eq];simp)
 have hp:=kw_prog s
 obtain ⟨R,hR⟩:∃ R,R=kwB s:=⟨_,rfl⟩
 rw [← hR] at hp ⊢
 clear hR
 rw [w7 [32]] at p1
 have hcat:ba ([32]++s++[32])=⟨#[32]⟩++ba s++⟨#[32]⟩:=by rw [← ba_app,← ba_app,w7 [32]]
 rw [hcat,kwS_eq,w7 [32,97,108,108,32,97,108,116,32,97,110,100,32,98,111,111,108,32,98,121,32,99,111,117,110,116,32,102,97,108,115,101,32,102,105,114,115,116,32,105,102,32,105,110,116,32,108,97,99,107,115,32,108,97,115,116,32,109,97,116,99,104,32,109,97,120,32,109,105,110,32,110,111,116,32,111,114,32,112,108,117,115,32,113,117,101,114,121,32,114,101,116,117,114,110,32,115,101,113,32,115,116,114,105,110,103,32,115,117,109,32,116,105,109,101,32,116,114,117,101,32,116,121,112,101,32,119,104,101,114,101,32,119,105,116,104,105,110,32]] at p2
 rw [kwS_eq] at hp
 have hl:=ba_list s
 have z0:=vS s
 have z1:(⟨#[32]⟩:ByteArray).size=1:=rfl
 have z2:((⟨#[32]⟩:ByteArray)++ba s).size=1+(ba s).size:=by rw [ByteArray.size_append,z1]
 have z3:(ByteArray.mk (Array.mk [32])).size=1:=rfl
 have z4:(ByteArray.mk (Array.mk [32])++ba s).size=1+(ba s).size:=by rw [ByteArray.size_append,z3]
 have h0:ba s=⟨#[]⟩↔s=[]:=⟨fun h=>ba_inj (h.trans (w7 []).symm),fun h=>by rw [h,w7]⟩
 generalize ba s=b at *
 generalize Lib.contains s [32]=c1 at *
 generalize Lib.contains _ ([32]++s++[32])=c2 at *
 refine zt ?_;unhygienic intros
 have n0:bNot false=true:=by simp only [ee];rfl
 have n1:bNot true=false:=by simp only [ee];rfl
 have hcc:sCat (sCat ⟨#[32]⟩ b) ⟨#[32]⟩=⟨#[32]⟩++b++⟨#[32]⟩:=by simp only [ee]
 generalize (⟨#[32]⟩:ByteArray)++b++⟨#[32]⟩=b2 at *
 have ke:sNe b ⟨#[]⟩=decide (s≠[]):=by
  simp only [ee];rw [hl];rw [Bool.eq_iff_iff];simp [ByteArray.toList_eq]
 generalize decide (s≠[])=e0 at *
 clear h0 hl hcat
 subst hp
 refine fB T115 [.t 2] ?_
 cases e0 with
 | false =>
  have fz:=ke
  refine Cq ?_
  refine Aq ?_
  refine zg rfl rfl ?_
  refine Aq ?_
  exact fV
 | true =>
  cases c1 with
  | true =>
   have fz:=And.intro ke (And.intro n0 (And.intro n1 hcc))
   refine Cq ?_
   refine Aq ?_
   refine oPG p1 ?_
   refine Cq ?_
   refine zj rfl rfl (fun c1=>?_) (fun c1=>?_)
   ·
    simp [ee] at c1
   simp [ee] at c1
   refine Aq ?_
   exact fV
  | false =>
   have fz:=And.intro ke (And.intro n0 (And.intro n1 hcc))
   refine Cq ?_
   refine Aq ?_
   refine oPG p1 ?_
   refine Cq ?_
   refine zj rfl rfl (fun c1=>?_) (fun c1=>?_)
   ·
    simp [ee] at c1
    refine Aq ?_
    refine xX rfl rfl p2 rfl ⟨[],trivial,⟨.refl _,.of (by simp only [hcc];rfl),trivial⟩⟩ ?_
    refine Aq ?_
    exact fV
   simp [ee] at c1
theorem P_lxName (s:Bs) (hs:s.length<1048577):PCall EL 75 [str (ba s)] (int (nmE s)):=by
 have pk:=P_Keyword s hs
 have pc:=(P_ContainsFuncB 117 [] rfl (fun n=>!(xY n || xe n)) (s.map ch) (by simpa using hs) fun x _=>P_lxName1 x).toL
 rw [okCh_any s] at pc
 have hsz:=vS s
 have hda:=uq s
 have hget:=fun d c r h=>ba_get s d r c h
 have hl:=ba_list s
 generalize ba s=b at *
 have hby:byteA b=mapE u8A (s.map ch):=by
  rw [byteA,hda,zn,List.map_map];rfl
 obtain ⟨bs,hbs⟩:∃ z,z=mapE u8A (s.map ch):=⟨_,rfl⟩
 rw [← hbs] at hby pc
 have kbs:(AV.isl 1 bs).closed=true:=by rw [hbs];exact closedI_u8 _
 clear hbs
 refine zt ?_;unhygienic intros
 have hbt:bytA b=bs:=by simp only [ee];exact hby
 rw [← hbt] at pc kbs
 have hn:sLen b=(s.length:Int):=by simp only [ee];rw [hsz]
 obtain ⟨R,hR⟩:∃ R,R=nmE s:=⟨_,rfl⟩
 rw [← hR]
 have ke:sEq b ⟨#[]⟩=decide (s=[]):=by
  simp only [ee];rw [hl];rw [Bool.eq_iff_iff];simp [ByteArray.toList_eq]
 refine fB T75 [.t 2] ?_
 cases hs0:s with
 | nil =>
  rw [hs0,nmE_nil] at hR
  rw [hs0] at ke
  have ke:sEq b ⟨#[]⟩=true:=ke
  rw [hR]
  have fz:=ke
  refine Cq ?_
  refine zj rfl rfl (fun c1=>?_) (fun c1=>?_)
  ·
   simp [ee] at c1
   refine Aq ?_
   exact fV
  simp [ee] at c1
 | cons c r =>
 have ke:sEq b ⟨#[]⟩=false:=by rw [ke,hs0];rfl
 by_cases h24:24<s.length
 · have k1:iLt 24 (sLen b)=true:=by simp only [ee];simp;have:=hsz;omega
   rw [hR,nmE_long h24]
   have fz:=And.intro ke k1
   refine Cq ?_
   refine zj rfl rfl (fun c1=>?_) (fun c1=>?_)
   ·
    simp [ee] at c1
    refine Aq ?_
    exact fV
   simp [ee] at c1
 have k1:iLt 24 (sLen b)=false:=by simp only [ee];simp;have:=hsz;omega
 have kc:sAt b 0=ch c:=by simp only [ee,ch];exact congrArg Nat.cast (hget [] c r hs0)
 have k0:(0:Int)<sLen b:=by rw [hn,hs0,List.length_cons];omega
 have pd:=(P_lxdigit (ch c)).toL
 rw [nmE_prog hs0 (by omega)] at hR
 generalize xe (ch c)=bd at *
 generalize kwB s=bk at *
 generalize s.all vT=ba' at *
 cases bd with
 | true =>
  rw [if_pos rfl] at hR
  rw [hR]
  have fz:=And.intro ke (And.intro k1 kc)
  refine Cq ?_
  refine zj rfl rfl (fun c1=>?_) (fun c1=>?_)
  ·
   simp [ee] at c1
  simp [ee] at c1
  refine Aq ?_
  refine xX rfl rfl pd rfl ⟨[],trivial,⟨.of (by simp only [kc];rfl),trivial⟩⟩ ?_
  refine Aq ?_
  exact fV
 | false =>
 rw [if_neg (by decide)] at hR
 cases bk with
 | true =>
  rw [if_pos rfl] at hR
  rw [hR]
  have fz:=And.intro ke (And.intro k1 kc)
  refine Cq ?_
  refine zj rfl rfl (fun c1=>?_) (fun c1=>?_)
  ·
   simp [ee] at c1
  simp [ee] at c1
  refine Aq ?_
  refine xX rfl rfl pd rfl ⟨[],trivial,⟨.of (by simp only [kc];rfl),trivial⟩⟩ ?_
  refine Aq ?_
  refine oPG pk ?_
  refine Aq ?_
  exact fV
 | false =>
 rw [if_neg (by decide)] at hR
 cases ba' with
 | false =>
  rw [if_pos rfl] at hR
  rw [hR]
  have fz:=And.intro ke (And.intro k1 kc)
  refine Cq ?_
  refine zj rfl rfl (fun c1=>?_) (fun c1=>?_)
  ·
   simp [ee] at c1
  simp [ee] at c1
  refine Aq ?_
  refine xX rfl rfl pd rfl ⟨[],trivial,⟨.of (by simp only [kc];rfl),trivial⟩⟩ ?_
  refine Aq ?_
  refine oPG pk ?_
  refine Aq ?_
  refine oPA pc ?_
  refine Aq ?_
  exact fV
 | true =>
  rw [if_neg (by decide)] at hR
  rw [hR]
  have fz:=And.intro ke (And.intro k1 kc)
  refine Cq ?_
  refine zj rfl rfl (fun c1=>?_) (fun c1=>?_)
  ·
   simp [ee] at c1
  simp [ee] at c1
  refine Aq ?_
  refine xX rfl rfl pd rfl ⟨[],trivial,⟨.of (by simp only [kc];rfl),trivial⟩⟩ ?_
  refine Aq ?_
  refine oPG pk ?_
  refine Aq ?_
  refine oPA pc ?_
  refine Aq ?_
  exact fV
def vty (vs:List Vr) (v:Int):Int:=(vs.getD v.toNat ⟨[],0⟩).ty
noncomputable def ndE (ts:List Sch) (vs:List Vr) (q:Pat):Int :=
 if q.op=0∨q.op=5 then if q.ty≠vty vs q.var then 9 else cndE ts vs q.cond
 else if q.op=7 then cndE ts vs q.cond else 0
theorem vty_at {vs d r:List Vr} {x:Vr} {v:Int} (h:vs=d++x :: r) (hv:v=d.length):vty vs v=x.ty:=by
 subst h hv;simp [vty]
theorem idxE_zero {α:Type} (F:α→Int):∀ l:List α,zu F l=0→yX F l=0
 | [],_=>rfl
 | x :: r,h=>by
  rw [yX]
  by_cases hx:F x=0
  · rw [zu,if_neg (by simpa using hx)] at h
    rw [if_neg (by simpa using hx),if_neg (by simpa using h)]
  rw [zu,if_pos hx] at h;exact absurd h hx
theorem idxE_append {α:Type} (F:α→Int):∀ a b:List α,zu F a=0→zu F b≠0→yX F (a++b)=a.length+yX F b
 | [],b,_,_=>by simp
 | x :: r,b,h,h2=>by
  by_cases hx:F x=0
  · rw [zu,if_neg (by simpa using hx)] at h
    rw [List.cons_append,yX,if_neg (by simpa using hx),if_pos (by rw [yr,if_neg (by simpa using h)];exact h2),idxE_append F r b h h2,List.length_cons]
    omega
  rw [zu,if_pos hx] at h;exact absurd h hx
theorem idxE_left {α:Type} (F:α→Int):∀ a b:List α,zu F a≠0→yX F (a++b)=yX F a
 | [],b,h=>by simp [zu] at h
 | x :: r,b,h=>by
  by_cases hx:F x=0
  · rw [zu,if_neg (by simpa using hx)] at h
    rw [List.cons_append,yX,if_neg (by simpa using hx),if_pos (by rw [yr,if_pos h];exact h),idxE_left F r b h,yX,if_neg (by simpa using hx),if_pos h]
  rw [List.cons_append,yX,if_pos hx,yX,if_pos hx]
theorem on_joinL {E:Env} {n N:Nat} {Q:zL→AFr→zz→Prop} {cur1:Cur} {k1:List KI} {F1:AFr} {H1:zz} (cur:Cur) (k:List KI) (F0:AFr) (H0:zz) (h:Holds E n N Q cur k F0 H0→Holds E n N Q cur1 k1 F1 H1) (t:Holds E n N Q cur k F0 H0):Holds E n N Q cur1 k1 F1 H1:=h t
theorem Pat.cntL_nodes (a:List Pat):((Pat.nodesL a).length:Int)=Pat.cntL a:=by rw [Pat.nodesL_len']
theorem enters___typecheck_walker__node : yz EE.P 55:=enters_of rfl (by decide) T55.2
theorem C_node (ts:List Sch) (vs:List Vr) (hts:x9 ts) (hvs:vs.length<1048577):∀ p:Pat,p.Sm→(∀ q∈p.nodes,q.op=0∨q.op=5→0≤q.var∧q.var<vs.length)→∀ n:Int,0≤n→n+p.cnt<1073741824 →
 ACall EE 55 [.ptr 0 0,p.enc] [.cells [.isl 2 (mapE Sch.enc ts),.isl 2 (mapE Vr.enc vs),int n]] (fun v H' =>
  (zu (ndE ts vs) p.nodes=0∧v=.tup [int 0,int 0]∧H'=[.cells [.isl 2 (mapE Sch.enc ts),.isl 2 (mapE Vr.enc vs),int (n+p.cnt)]]) ∨
  (zu (ndE ts vs) p.nodes≠0∧v=.tup [int (n+yX (ndE ts vs) p.nodes),int (zu (ndE ts vs) p.nodes)]∧∃ m,H'=[.cells [.isl 2 (mapE Sch.enc ts),.isl 2 (mapE Vr.enc vs),int m]])):=by
 refine Pat.ind ?_
 intro o a t v s sp c ih hs hv n hn0 hn1
 have hlen:=hs.len
 have hih:∀ q∈a,∀ n:Int,0≤n→n+q.cnt<1073741824→_:=fun q hq=>ih q hq (hs.arg hq) fun q2 hq2=>hv q2 (by
  simp only [Pat.nodes]
  obtain ⟨d,r,rfl⟩:=List.append_of_mem hq
  simp [Pat.nodesL_append,Pat.nodesL,hq2])
 have hv0:=hv _ (by simp only [Pat.nodes];exact List.mem_cons_self)
 have pc:=P_Condition ts vs c hts hvs (hs.2 c (by simp [Pat.exs]))
 have kts:=Sch.closedI ts
 have kvs:=Vr.closedI vs
 have kcl:=Pat.closedI a
 have hev:(mapE Vr.enc vs).length=vs.length:=zr ..
 have kpc:=Pat.closed (.mk o a t v s sp c)
 have hcnt:(Pat.mk o a t v s sp c).cnt=1+Pat.cntL a:=by simp only [Pat.cnt]
 rw [hcnt] at hn1 ⊢
 simp only [Pat.nodes]
 obtain ⟨F,hF⟩:∃ F,F=ndE ts vs:=⟨_,rfl⟩
 have hnd:F (.mk o a t v s sp c)=if o=0∨o=5 then if t≠vty vs v then 9 else cndE ts vs c else if o=7 then cndE ts vs c else 0:=by rw [hF];rfl
 rw [← hF] at hih ⊢
 simp only [Pat.op,Pat.var] at hv0
 obtain ⟨pp,hpp⟩:∃ z,z=Pat.mk o a t v s sp c:=⟨_,rfl⟩
 rw [← hpp] at hnd ⊢
 obtain ⟨co,ca,cv,cf,ck,⟨xk,xn,xt⟩⟩:=c
 rw [Pat.enc_mk] at kpc
 rw [hpp,Pat.enc_mk]
 rw [← hpp]
 rw [Ex.enc_mk] at pc
 dsimp only at pc kpc ⊢
 have kce:=Ex.closedI ca
 obtain ⟨cd,hcd⟩:∃ z,z=cndE ts vs (.mk co ca cv cf ck ⟨xk,xn,xt⟩):=⟨_,rfl⟩
 rw [← hcd] at pc hnd
 have hvx:o=0∨o=5→∃ d x r,vs=d++x :: r∧v=d.length:=fun h=>by
  obtain ⟨d,x,r,e1,e2,_⟩:=vz (l:=vs) (n:=v.toNat) (by have:=hv0 h;omega)
  exact ⟨d,x,r,e1,by have:=hv0 h;omega⟩
 have hat:o=0∨o=5→0≤v∧v<(mapE Vr.enc vs).length∧∃ nm,(mapE Vr.enc vs).getD v.toNat .undef=.agg [str nm,int (vty vs v)]:=fun h=>by
  obtain ⟨d,x,r,e1,e2⟩:=hvx h
  refine ⟨(hv0 h).1,by rw [hev];exact (hv0 h).2,ba x.nm,?_⟩
  rw [vty_at e1 e2,e1,e2,zn,List.map_append,List.map_cons]
  simp [Vr.enc_eq]
 generalize vty vs v=vt at *
 clear ih hs hv hvx hv0 hcd
 by_cases hz:F pp=0
 rotate_left
 · have hf1:zu F (pp :: Pat.nodesL a)=F pp:=by rw [zu,if_pos hz]
   have hf2:yX F (pp :: Pat.nodesL a)=0:=by rw [yX,if_pos hz]
   rw [hf1,hf2]
   rw [← hcnt] at hn1
   obtain ⟨nd,hnd2⟩:∃ z,z=F pp:=⟨_,rfl⟩
   rw [← hnd2] at hz hnd ⊢
   clear hih hf1 hf2 hnd2 hcnt
   refine ACall.mono (R:=fun v H'=>v=.tup [int n,int nd]∧∃ m,H'=[.cells [.isl 2 (mapE Sch.enc ts),.isl 2 (mapE Vr.enc vs),int m]]) ?_ (by rintro v H' ⟨rfl,m,rfl⟩;exact .inr ⟨hz,by simp,m,rfl⟩)
   refine zt ?_;unhygienic intros
   generalize mapE Sch.enc ts=ets at *
   generalize mapE Vr.enc vs=evs at *
   generalize mapE Pat.enc a=es at *
   generalize mapE Ex.enc ca=ec at *
   by_cases o0:o=0
   · rw [if_pos (by omega)] at hnd
     obtain ⟨b0,b1,nm,kat⟩:=hat (by omega)
     have kat:atA evs v=.agg [str nm,int vt]:=by simp only [ee];exact kat
     have kb:0≤v∧v<lenA evs:=by simp only [ee];omega
     have q0:iEq o 0=true:=by simp only [ee];simpa using o0
     by_cases ht:t=vt
     · rw [if_neg (by omega)] at hnd
       subst hnd
       have nE:iNe t vt=false:=by simp only [ee];simpa using ht
       have qc:iNe nd 0=true:=by simp only [ee];simpa using hz
       refine rB T55 [.t 4,.t 5] ?_
       show Holds EE 76 1 _ _ _ _ _
       have fz:=And.intro q0 (And.intro kat (And.intro nE qc))
       refine Cq ?_
       refine Cr ?_
       refine Cr ?_
       refine Aq ?_
       refine zP rfl (by conv=>lhs;cbv) rfl ?_
       refine tgA ?_
       refine oPT pc ?_
       refine tgA ?_
       refine zH ⟨rfl,by simp [zK,zV],?_⟩
       refine Cq ?_
       refine Aq ?_
       refine yL (F2:=[(4,int n),(5,int nd)]) (H2:=[.cells [.isl 2 ets,.isl 2 evs,int (iAdd .i64 n 1)]]) (eN [.to 0,.gone] [some 0]) rfl ⟨rfl,_,rfl⟩
     rw [if_pos ht] at hnd
     subst hnd
     have nE:iNe t vt=true:=by simp only [ee];simpa using ht
     refine rB T55 [.t 4,.t 5] ?_
     show Holds EE 76 1 _ _ _ _ _
     have fz:=And.intro q0 (And.intro kat nE)
     refine Cq ?_
     refine Cr ?_
     refine Cr ?_
     refine Aq ?_
     refine yL (F2:=[(4,int n),(5,int 9)]) (H2:=[.cells [.isl 2 ets,.isl 2 evs,int (iAdd .i64 n 1)]]) (eN [.to 0,.gone] [some 0]) rfl ⟨rfl,_,rfl⟩
   have q0:iEq o 0=false:=by simp only [ee];simpa using o0
   by_cases o5:o=5
   · rw [if_pos (by omega)] at hnd
     obtain ⟨b0,b1,nm,kat⟩:=hat (by omega)
     have kat:atA evs v=.agg [str nm,int vt]:=by simp only [ee];exact kat
     have kb:0≤v∧v<lenA evs:=by simp only [ee];omega
     have q5:iEq o 5=true:=by simp only [ee];simpa using o5
     by_cases ht:t=vt
     · rw [if_neg (by omega)] at hnd
       subst hnd
       have nE:iNe t vt=false:=by simp only [ee];simpa using ht
       have qc:iNe nd 0=true:=by simp only [ee];simpa using hz
       refine rB T55 [.t 4,.t 5] ?_
       show Holds EE 76 1 _ _ _ _ _
       have fz:=And.intro q0 (And.intro q5 (And.intro kat (And.intro nE qc)))
       refine Cq ?_
       refine Cr ?_
       refine Cr ?_
       refine Aq ?_
       refine zP rfl (by conv=>lhs;cbv) rfl ?_
       refine tgA ?_
       refine oPT pc ?_
       refine tgA ?_
       refine zH ⟨rfl,by simp [zK,zV],?_⟩
       refine Cq ?_
       refine Aq ?_
       refine yL (F2:=[(4,int n),(5,int nd)]) (H2:=[.cells [.isl 2 ets,.isl 2 evs,int (iAdd .i64 n 1)]]) (eN [.to 0,.gone] [some 0]) rfl ⟨rfl,_,rfl⟩
     rw [if_pos ht] at hnd
     subst hnd
     have nE:iNe t vt=true:=by simp only [ee];simpa using ht
     refine rB T55 [.t 4,.t 5] ?_
     show Holds EE 76 1 _ _ _ _ _
     have fz:=And.intro q0 (And.intro q5 (And.intro kat nE))
     refine Cq ?_
     refine Cr ?_
     refine Cr ?_
     refine Aq ?_
     refine yL (F2:=[(4,int n),(5,int 9)]) (H2:=[.cells [.isl 2 ets,.isl 2 evs,int (iAdd .i64 n 1)]]) (eN [.to 0,.gone] [some 0]) rfl ⟨rfl,_,rfl⟩
   have q5:iEq o 5=false:=by simp only [ee];simpa using o5
   rw [if_neg (by omega)] at hnd
   by_cases o7:o=7
   · have q7:iEq o 7=true:=by simp only [ee];simpa using o7
     rw [if_pos o7] at hnd
     subst hnd
     have qc:iNe nd 0=true:=by simp only [ee];simpa using hz
     clear hat
     refine rB T55 [.t 4,.t 5] ?_
     show Holds EE 76 1 _ _ _ _ _
     have fz:=And.intro q0 (And.intro q5 (And.intro q7 qc))
     refine Cq ?_
     refine Cr ?_
     refine Cr ?_
     refine Aq ?_
     refine zP rfl (by conv=>lhs;cbv) rfl ?_
     refine tgA ?_
     refine oPT pc ?_
     refine tgA ?_
     refine zH ⟨rfl,by simp [zK,zV],?_⟩
     refine Cq ?_
     refine Aq ?_
     refine yL (F2:=[(4,int n),(5,int nd)]) (H2:=[.cells [.isl 2 ets,.isl 2 evs,int (iAdd .i64 n 1)]]) (eN [.to 0,.gone] [some 0]) rfl ⟨rfl,_,rfl⟩
   rw [if_neg o7] at hnd
   exact absurd hnd hz
 have hf1:zu F (pp :: Pat.nodesL a)=zu F (Pat.nodesL a):=by rw [zu,if_neg (by simpa using hz)]
 have hf2:zu F (Pat.nodesL a)≠0→yX F (pp :: Pat.nodesL a)=1+yX F (Pat.nodesL a):=fun h=>by rw [yX,if_neg (by simpa using hz),if_pos h];omega
 rw [hf1]
 rw [hz] at hnd
 have ktl:AV.closedL (mapE Sch.enc ts)=true:=Sch.closedL ts
 have kvl:AV.closedL (mapE Vr.enc vs)=true:=Vr.closedL vs
 clear hz hf1 hcnt
 refine zt ?_;unhygienic intros
 have n0:iNe 0 0=false:=by simp only [ee];rfl
 have hn2:iAdd .i64 n 1=n+1:=wZ e_iAdd (by omega) (by omega)
 generalize mapE Sch.enc ts=ets at *
 generalize mapE Vr.enc vs=evs at *
 generalize hes:mapE Pat.enc a=es at *
 have hel:es.length=a.length:=by rw [← hes,zr]
 generalize mapE Ex.enc ca=ec at *
 refine rB T55 [.t 4,.t 5] ?_
 show Holds EE 76 1 _ _ _ _ _
 apply on_joinL (F0:=[(61,int 0),(60,int (lenA es)),(59,.isl 14 es),(0,.ptr 0 0)]) (H0:=[.cells [.isl 2 ets,.isl 2 evs,int (iAdd .i64 n 1)]])
 · intro hj
   by_cases o0:o=0
   · rw [if_pos (by omega)] at hnd
     obtain ⟨b0,b1,nm,kat⟩:=hat (by omega)
     have kat:atA evs v=.agg [str nm,int vt]:=by simp only [ee];exact kat
     have kb:0≤v∧v<lenA evs:=by simp only [ee];omega
     have q0:iEq o 0=true:=by simp only [ee];simpa using o0
     have ht:t=vt:=Classical.byContradiction fun h=>by rw [if_pos h] at hnd;cases hnd
     rw [if_neg (by omega)] at hnd
     rw [← hnd] at pc
     have nE:iNe t vt=false:=by simp only [ee];simpa using ht
     have fz:=And.intro q0 (And.intro kat (And.intro nE n0))
     refine Cq ?_
     refine Cr ?_
     refine Cr ?_
     refine Aq ?_
     refine zP rfl (by conv=>lhs;cbv) rfl ?_
     refine tgA ?_
     refine oPT pc ?_
     refine tgA ?_
     refine zH ⟨rfl,by simp [zK,zV],?_⟩
     refine Cq ?_
     refine Aq ?_
     refine x6 ?_ hj
     exact (eN [.to 0,.gone] [some 0])
   have q0:iEq o 0=false:=by simp only [ee];simpa using o0
   by_cases o5:o=5
   · rw [if_pos (by omega)] at hnd
     obtain ⟨b0,b1,nm,kat⟩:=hat (by omega)
     have kat:atA evs v=.agg [str nm,int vt]:=by simp only [ee];exact kat
     have kb:0≤v∧v<lenA evs:=by simp only [ee];omega
     have q5:iEq o 5=true:=by simp only [ee];simpa using o5
     have ht:t=vt:=Classical.byContradiction fun h=>by rw [if_pos h] at hnd;cases hnd
     rw [if_neg (by omega)] at hnd
     rw [← hnd] at pc
     have nE:iNe t vt=false:=by simp only [ee];simpa using ht
     have fz:=And.intro q0 (And.intro q5 (And.intro kat (And.intro nE n0)))
     refine Cq ?_
     refine Cr ?_
     refine Cr ?_
     refine Aq ?_
     refine zP rfl (by conv=>lhs;cbv) rfl ?_
     refine tgA ?_
     refine oPT pc ?_
     refine tgA ?_
     refine zH ⟨rfl,by simp [zK,zV],?_⟩
     refine Cq ?_
     refine Aq ?_
     refine x6 ?_ hj
     exact (eN [.to 0,.gone] [some 0])
   have q5:iEq o 5=false:=by simp only [ee];simpa using o5
   rw [if_neg (by omega)] at hnd
   by_cases o7:o=7
   · have q7:iEq o 7=true:=by simp only [ee];simpa using o7
     rw [if_pos o7] at hnd
     rw [← hnd] at pc
     have fz:=And.intro q0 (And.intro q5 (And.intro q7 n0))
     refine Cq ?_
     refine Cr ?_
     refine Cr ?_
     refine Aq ?_
     refine zP rfl (by conv=>lhs;cbv) rfl ?_
     refine tgA ?_
     refine oPT pc ?_
     refine tgA ?_
     refine zH ⟨rfl,by simp [zK,zV],?_⟩
     refine Cq ?_
     refine Aq ?_
     refine x6 ?_ hj
     exact (eN [.to 0,.gone] [some 0])
   have q7:iEq o 7=false:=by simp only [ee];simpa using o7
   have fz:=And.intro q0 (And.intro q5 (And.intro q7 n0))
   refine Cq ?_
   refine Cr ?_
   refine Cr ?_
   refine Aq ?_
   refine x6 ?_ hj
   exact (eN [.to 0,.gone] [some 0])
 clear hat hnd pc kpc
 refine za (ι:=List Pat × List Pat × Int × Int) (fun p=>([(61,int p.2.2.1),(60,int (lenA es)),(59,.isl 14 es),(0,.ptr 0 0)],[.cells [.isl 2 ets,.isl 2 evs,int p.2.2.2]])) (fun p=>a=p.1++p.2.1∧p.2.2.1=p.1.length∧p.2.2.2=n+1+Pat.cntL p.1∧zu F (Pat.nodesL p.1)=0) (fun p=>p.2.1.length) ([],a,0,iAdd .i64 n 1) ⟨rfl,rfl,by rw [hn2];simp [Pat.cntL],rfl⟩ ?_ ?_
 · exact (eN [.to 0] [some 0])
 rintro ⟨d,r,i,m⟩ ⟨g1,gi,gm,gd⟩
 dsimp only at g1 gi gm gd ⊢
 cases r with
 | nil =>
  have L1:=zw g1
  try simp only [List.length] at L1
  have hc:iLt i (lenA es)=false:=xg e_iLt e_lenA (by omega)
  rw [List.append_nil] at g1
  rw [g1,gd]
  have hmf:n+((1+Pat.cntL d:Nat):Int)=m:=by omega
  rw [hmf]
  clear hih hf2
  have fz:=hc
  refine Cq ?_
  refine Aq ?_
  refine zl ?_
  refine Aq ?_
  refine yL (F2:=[(4,int 0),(5,int 0)]) (H2:=[.cells [.isl 2 ets,.isl 2 evs,int m]]) (eN [.to 0] [some 0]) rfl (.inl ⟨rfl,rfl,rfl⟩)
 | cons q r =>
  have L1:=zw g1
  try simp only [List.length] at L1
  have hc:iLt i (lenA es)=true:=xf e_iLt e_lenA (by omega)
  have hat:=z7 e_atA hes g1 gi
  have hi2:iAdd .i64 i 1=((d++[q]).length:Int):=by rw [List.length_append];exact yq e_iAdd gi (by omega)
  have hca:Pat.cntL a=Pat.cntL d+(q.cnt+Pat.cntL r):=by rw [g1,Pat.cntL_append,Pat.cntL]
  have hq:=hih q (by rw [g1];simp) m (by omega) (by omega)
  have hqc:=Pat.closed q
  have hna:Pat.nodesL a=Pat.nodesL d++(q.nodes++Pat.nodesL r):=by rw [g1,Pat.nodesL_append,Pat.nodesL]
  have hgood:zu F q.nodes=0→m+q.cnt=n+1+Pat.cntL (d++[q])∧zu F (Pat.nodesL (d++[q]))=0:=fun h=>by
   rw [Pat.cntL_append,Pat.nodesL_append,yr,if_neg (by simpa using gd)]
   simp only [Pat.cntL,Pat.nodesL,List.append_nil]
   exact ⟨by omega,h⟩
  have hbad:zu F q.nodes≠0→zu F (Pat.nodesL a)=zu F q.nodes∧n+yX F (pp :: Pat.nodesL a)=m+yX F q.nodes:=fun h=>by
   have e1:zu F (Pat.nodesL a)=zu F q.nodes:=by rw [hna,yr,if_neg (by simpa using gd),yr,if_pos h]
   refine ⟨e1,?_⟩
   rw [hf2 (by rw [e1];exact h),hna,idxE_append F _ _ gd (by rw [yr,if_pos h];exact h),idxE_left F _ _ h,Pat.cntL_nodes]
   omega
  obtain ⟨qO,qA,qT,qV,qS,qN,qCo,qCa,qCv,qCf,qCk,qXk,qXn,qXt,hx⟩:=Pat.form q
  rw [hx] at hat hqc hq
  clear hih hf2 hna hca
  generalize zu F q.nodes=fq at *
  generalize yX F q.nodes=xq at *
  generalize (q.cnt:Int)=qn at *
  have fz:=And.intro hc hat
  refine Cq ?_
  refine Cr ?_
  refine Aq ?_
  refine wi [0] rfl rfl enters___typecheck_walker__node hq (by decide) (by simp) (by show _=[AObj.cells [AV.isl 2 (AV.subL _ ets),AV.isl 2 (AV.subL _ evs),int m]];rw [zx _ ktl,zx _ kvl]) (by show _=[AV.ptr 0 0,AV.agg (AV.subL _ _)];rw [zx _ (show AV.closedL [int qO,.isl 14 qA,int qT,int qV,int qS,int qN,int qCo,.isl 8 qCa,int qCv,int qCf,int qCk,int qXk,int qXn,str qXt]=true from hqc)]) ?_
  rintro v0 H' (⟨h0,rfl,rfl⟩ | ⟨h0,rfl,m2,rfl⟩) -
  · have hgood:=hgood h0
    clear hbad
    have hm:∀ x:AObj,yR [x,.cells [int qO,.isl 14 qA,int qT,int qV,int qS,int qN,int qCo,.isl 8 qCa,int qCv,int qCf,int qCk,int qXk,int qXn,str qXt]] [0] [.cells [.isl 2 ets,.isl 2 evs,int (m+qn)]]=[.cells [.isl 2 ets,.isl 2 evs,int (m+qn)],.cells [int qO,.isl 14 qA,int qT,int qV,int qS,int qN,int qCo,.isl 8 qCa,int qCv,int qCf,int qCk,int qXk,int qXn,str qXt]]:=fun _=>by
     show [AObj.cells [AV.isl 2 (AV.subL _ ets),AV.isl 2 (AV.subL _ evs),int _],_]=_
     rw [zx _ ktl,zx _ kvl];rfl
    rw [hm]
    generalize m+qn=m2 at *
    have fz:=n0
    refine Cq ?_
    refine Aq ?_
    refine zp (d++[q],r,iAdd .i64 i 1,m2) ⟨by rw [g1];simp,hi2,hgood.1,hgood.2⟩ (by simp) (eN [.to 0,.gone] [some 0])
  obtain ⟨e1,e2⟩:=hbad h0
  clear hgood
  rw [e1,e2]
  have hm:∀ x:AObj,yR [x,.cells [int qO,.isl 14 qA,int qT,int qV,int qS,int qN,int qCo,.isl 8 qCa,int qCv,int qCf,int qCk,int qXk,int qXn,str qXt]] [0] [.cells [.isl 2 ets,.isl 2 evs,int (m2)]]=[.cells [.isl 2 ets,.isl 2 evs,int (m2)],.cells [int qO,.isl 14 qA,int qT,int qV,int qS,int qN,int qCo,.isl 8 qCa,int qCv,int qCf,int qCk,int qXk,int qXn,str qXt]]:=fun _=>by
   show [AObj.cells [AV.isl 2 (AV.subL _ ets),AV.isl 2 (AV.subL _ evs),int _],_]=_
   rw [zx _ ktl,zx _ kvl];rfl
  rw [hm]
  have q1:iNe fq 0=true:=by simp only [ee];simpa using h0
  generalize m+xq=m3 at *
  have fz:=q1
  refine Cq ?_
  refine Aq ?_
  refine zi ?_
  refine Aq ?_
  refine yL (F2:=[(4,int m3),(5,int fq)]) (H2:=[.cells [.isl 2 ets,.isl 2 evs,int m2]]) (eN [.to 0,.gone] [some 0]) rfl (.inr ⟨h0,rfl,_,rfl⟩)
end Go.Am
end
