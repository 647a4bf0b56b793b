/- Contracts of the program's functions. -/
import Derived.Test.YtpdmaimjllhooaaGreatDoorPCt1
import Derived.Test.YtpdmaimjllhooaaGreatDoorCards
import Derived.Test.YtpdmaimjllhooaaGreatDoorProg
import Derived.Test.YtpdmaimjllhooaaGreatDoorRows
import Derived.Test.YtpdmaimjllhooaaGreatDoorTie
section
set_option maxHeartbeats 16000000
set_option maxRecDepth 100000
namespace Go.Am
open Go.Proofs
theorem ba_lit (l:Bs):(⟨l.toArray⟩:ByteArray)=ba l:=(w7 l).symm
theorem ba_eqB (a b:Bs):((ba a).toList == (ba b).toList)=decide (a=b):=by
 rw [ba_list,ba_list,Bool.eq_iff_iff];simp
theorem P_fieldName (l:Bs) (hl:l.length<1152921504606846976):PCall EE 150 [str (ba l)] (bool (uE l)):=by
 have q1:=P_name l hl
 have e1:((ba l).toList == (ByteArray.mk #[116,105,109,101]).toList)=decide (l=v7):=by
  rw [show (ByteArray.mk #[116,105,109,101])=ba v7 from ba_lit v7,ba_eqB]
 have hf:uE l=(nameB l && decide (l≠v7)):=rfl
 rw [hf]
 generalize nameB l=b0 at *
 generalize ba l=s at *
 refine zt ?_;unhygienic intros
 have h1:sNe s ⟨#[116,105,109,101]⟩=decide (l≠v7):=by simp only [ee];rw [e1];simp
 clear e1 hf
 generalize decide (l≠v7)=b1 at *
 refine fB T150 [.t 2] ?_
 have hand:∀ a b,bAnd a b=(a && b):=fun a b=>by simp only [ee]
 refine Aq ?_
 refine oPA q1 ?_
 refine Aq ?_
 exact fBo (h:=by rw [hand];exact congrArg (fun x=>b0 && x) h1)
theorem P_refName (l:Bs) (hl:l.length<1152921504606846976):PCall EE 124 [str (ba l)] (bool (nameB l)):=by
 have hsz:=vS l
 have hget:=fun d c r h=>ba_get l d r c h
 generalize ba l=s at *
 refine zt ?_;unhygienic intros
 have hn:sLen s=(l.length:Int):=by simp only [ee];rw [hsz]
 have hat:∀ d c r,l=d++c :: r→∀ i:Int,i=d.length→sAt s i=ch c:=fun d c r h i hi=>by
  subst hi;simp only [ee,ch];rw [Int.toNat_natCast,hget d c r h]
 have n0:bNot false=true:=by simp only [ee];rfl
 have n1:bNot true=false:=by simp only [ee];rfl
 refine fB T124 [.t 2] ?_
 cases l with
 | nil =>
  have k0:iEq (sLen s) 0=true:=by rw [hn];simp only [ee];rfl
  have fz:=k0
  refine Cq ?_
  refine zj rfl rfl (fun c1=>?_) (fun c1=>?_)
  ·
   simp [ee] at c1
   refine Aq ?_
   refine zg rfl rfl ?_
   refine Aq ?_
   exact fV
  simp [ee] at c1
 | cons c0 r0 =>
 have k0:iEq (sLen s) 0=false:=by rw [hn];simp only [ee];simp;omega
 by_cases h24:(c0 :: r0).length≤24
 rotate_left
 · have k1:iLt 24 (sLen s)=true:=by rw [hn];simp only [ee];simp at h24 ⊢;omega
   have hnb:nameB (c0 :: r0)=false:=by unfold nameB;rw [decide_eq_false h24,Bool.false_and]
   rw [hnb]
   have fz:=And.intro k0 k1
   refine Cq ?_
   refine zj rfl rfl (fun c1=>?_) (fun c1=>?_)
   ·
    simp [ee] at c1
    refine Aq ?_
    refine zg rfl rfl ?_
    refine Aq ?_
    exact fV
   simp [ee] at c1
 have k1:iLt 24 (sLen s)=false:=by rw [hn];simp only [ee];simp at h24 ⊢;omega
 have hL0:=hat [] c0 r0 rfl 0 rfl
 have qd:PCall EE 157 [u8 (sAt s 0)] (bool (xY (ch c0))):=by rw [← hL0];exact P_refletter _
 have hp:0<sLen s:=by rw [hn];simp
 have hnb:nameB (c0 :: r0)=(xY (ch c0) && (c0 :: r0).all vT):=by
  simp only [nameB,decide_eq_true h24,Bool.true_and,List.all_cons,vT]
  have hx:¬ (xY (ch c0)=true∧xe (ch c0)=true):=by simp only [xY,xe];simp;omega
  generalize xY (ch c0)=x at *
  generalize xe (ch c0)=y at *
  cases x<;>cases y<;>simp_all
 rw [hnb]
 generalize xY (ch c0)=b0 at *
 cases b0 with
 | false =>
  have fz:=And.intro k0 (And.intro k1 n0)
  refine Cq ?_
  refine zj rfl rfl (fun c1=>?_) (fun c1=>?_)
  ·
   simp [ee] at c1
  simp [ee] at c1
  refine Aq ?_
  refine oPG qd ?_
  refine Cq ?_
  refine oC (fun c2=>?_) fun c2=>?_
  ·
   simp [ee] at c2
   refine Aq ?_
   exact fV
  simp [ee] at c2
 | true =>
 clear hnb hL0
 generalize hL:c0 :: r0=L at *
 have fz:=And.intro k0 (And.intro k1 n1)
 refine Cq ?_
 refine zj rfl rfl (fun c1=>?_) (fun c1=>?_)
 ·
  simp [ee] at c1
 simp [ee] at c1
 refine Aq ?_
 refine oPG qd ?_
 refine Cq ?_
 refine oC (fun c2=>?_) fun c2=>?_
 ·
  simp [ee] at c2
 simp [ee] at c2
 refine Aq ?_
 refine za (ι:=Bs × Bs × Int) (fun p=>([(3,int p.2.2),(0,str s)],[])) (fun p=>L=p.1++p.2.1∧p.2.2=p.1.length∧p.1.all vT=true) (fun p=>p.2.1.length) ([],L,0) ⟨rfl,rfl,rfl⟩ ?_ ?_
 · exact (eS [] [])
 rintro ⟨d,r,i⟩ ⟨g1,gi,ga⟩
 dsimp only at g1 gi ga ⊢
 cases r with
 | nil =>
  have hc:iLt i (sLen s)=false:=by rw [hn,g1];simp only [ee];simp;omega
  have hall:L.all vT=true:=by rw [g1,List.append_nil];exact ga
  rw [hall]
  have fz:=hc
  refine Cq ?_
  refine Aq ?_
  refine zl ?_
  refine Aq ?_
  exact fV
 | cons c r =>
  have L1:=zw g1
  try simp only [List.length] at L1
  have hc:iLt i (sLen s)=true:=by rw [hn];simp only [ee];simp;omega
  have hb:i<sLen s:=by rw [hn];omega
  have hi2:iAdd .i64 i 1=((d++[c]).length:Int):=by rw [List.length_append];exact yq e_iAdd gi (by omega)
  have hx:=hat d c r g1 i gi
  have ql:PCall EE 157 [u8 (sAt s i)] (bool (xY (ch c))):=by rw [← hx];exact P_refletter _
  have hok:vT c=(xY (ch c) || xe (ch c)):=rfl
  have hdg:xe (ch c)=decide (48≤sAt s i∧sAt s i≤57):=by rw [hx];rfl
  clear hx
  generalize xY (ch c)=b1 at *
  generalize xe (ch c)=b2 at *
  generalize hv:sAt s i=v at *
  cases b1 with
  | true =>
   have h2:(d++[c]).all vT=true:=by simp [ga,hok]
   subst hv
   have fz:=And.intro hc n1
   refine Cq ?_
   refine Aq ?_
   refine oPA ql ?_
   refine Cq ?_
   refine Aq ?_
   refine zg rfl rfl ?_
   refine Aq ?_
   refine zp (d++[c],r,iAdd .i64 i 1) ⟨by simp [g1],hi2,h2⟩ (by simp) (eS [] [])
  | false =>
   by_cases h48:v<48
   · have k4:iLt v 48=true:=by simp only [ee];simpa using h48
     have hf:vT c=false:=by rw [hok,hdg];simp;omega
     rw [all_cons g1 hf]
     subst hv
     have fz:=And.intro hc (And.intro n0 k4)
     refine Cq ?_
     refine Aq ?_
     refine oPA ql ?_
     refine Cq ?_
     refine Cr ?_
     refine Cr ?_
     refine Cr ?_
     refine Cr ?_
     refine Cr ?_
     refine Cr ?_
     refine Cr ?_
     refine Cr ?_
     refine Cr ?_
     refine oC (fun c1=>?_) fun c1=>?_
     ·
      simp [ee] at c1
      refine Aq ?_
      refine zi ?_
      refine Aq ?_
      exact fV
     simp [ee] at c1
   have k4:iLt v 48=false:=by simp only [ee];simpa using h48
   by_cases h57:57<v
   · have k5:iLt 57 v=true:=by simp only [ee];simpa using h57
     have hf:vT c=false:=by rw [hok,hdg];simp;omega
     rw [all_cons g1 hf]
     subst hv
     have fz:=And.intro hc (And.intro n0 (And.intro k4 k5))
     refine Cq ?_
     refine Aq ?_
     refine oPA ql ?_
     refine Cq ?_
     refine Cr ?_
     refine Cr ?_
     refine Cr ?_
     refine Cr ?_
     refine Cr ?_
     refine Cr ?_
     refine Cr ?_
     refine Cr ?_
     refine Cr ?_
     refine oC (fun c1=>?_) fun c1=>?_
     ·
      simp [ee] at c1
      refine Aq ?_
      refine zi ?_
      refine Aq ?_
      exact fV
     simp [ee] at c1
   have k5:iLt 57 v=false:=by simp only [ee];simpa using h57
   have hf:vT c=true:=by rw [hok,hdg];simp;omega
   have h2:(d++[c]).all vT=true:=by simp [ga,hf]
   subst hv
   have fz:=And.intro hc (And.intro n0 (And.intro k4 k5))
   refine Cq ?_
   refine Aq ?_
   refine oPA ql ?_
   refine Cq ?_
   refine Cr ?_
   refine Cr ?_
   refine Cr ?_
   refine Cr ?_
   refine Cr ?_
   refine Cr ?_
   refine Cr ?_
   refine Cr ?_
   refine Cr ?_
   refine oC (fun c1=>?_) fun c1=>?_
   ·
    simp [ee] at c1
   simp [ee] at c1
   refine Aq ?_
   refine zp (d++[c],r,iAdd .i64 i 1) ⟨by simp [g1],hi2,h2⟩ (by simp) (eS [] [])
def tY (nm:Bs):List Fld→Int→Int
 | [],_=>-1
 | f :: r,i=>if f.nm=nm then i else tY nm r (i+1)
def Fld.pos (l:List Fld) (nm:Bs):Int:=tY nm l 0
theorem posF_app {nm:Bs}:∀ (d r:List Fld) (i:Int),(∀ f∈d,f.nm≠nm)→tY nm (d++r) i=tY nm r (i+d.length)
 | [],r,i,_=>by simp
 | f :: d,r,i,h=>by
  rw [List.cons_append,tY,if_neg (h f (by simp)),posF_app d r (i+1) fun x hx=>h x (by simp [hx])]
  congr 1;simp;omega
theorem pos_hit {nm:Bs} {l d r:List Fld} {f:Fld} (h:l=d++f :: r) (hd:∀ f∈d,f.nm≠nm) (hf:f.nm=nm):Fld.pos l nm=d.length:=by
 rw [Fld.pos,h,posF_app d _ 0 hd,tY,if_pos hf];omega
theorem pos_miss {nm:Bs} {l:List Fld} (hd:∀ f∈l,f.nm≠nm):Fld.pos l nm = -1:=by
 have:=posF_app l [] 0 hd
 rw [List.append_nil] at this
 rw [Fld.pos,this,tY]
noncomputable def ents (l:List Bs):List (AV × AV):=l.map fun n=>(str (ba n),bool true)
theorem ut (l:List Bs) (s:ByteArray):mOkL true (ents l) (str s)=true:=by
 unfold mOkL ents
 rw [List.all_eq_true]
 intro p hp
 obtain ⟨n,_,rfl⟩:=List.mem_map.1 hp
 rfl
theorem babeq (a b:ByteArray):(a == b)=decide (a=b):=by
 cases a;cases b
 rename_i x y
 show (x == y)=_
 by_cases h:x=y
 · subst h;simp
 rw [decide_eq_false (fun e=>h (ByteArray.mk.inj e))];simpa using h
theorem mIs_ba (n s:Bs) (v:AV):mIs true (str (ba s)) (str (ba n),v)=decide (n=s):=by
 show ((if true=true then some (ba s == ba n) else none) == some true)=_
 rw [if_pos rfl,babeq]
 by_cases h:n=s
 · subst h;simp
 rw [decide_eq_false (fun e=>h (ba_inj e).symm),decide_eq_false h];rfl
theorem uS : ∀ l:List Bs,y3 (ents l)=true
 | []=>rfl
 | n :: l=>by
  have ih:=uS l
  rw [ents] at ih
  rw [ents,List.map_cons,y3,List.all_cons]
  exact ih
theorem uZ (s:Bs):∀ l:List Bs,mGetL true (ents l) (str (ba s)) (bool false)=bool (decide (s∈l))
 | []=>rfl
 | n :: l=>by
  have ih:=uZ s l
  rw [ents] at ih
  rw [ents,List.map_cons,mGetL,mIs_ba]
  by_cases h:n=s
  · subst h;simp
  rw [decide_eq_false h,if_neg (by decide),ih]
  simp [Ne.symm h]
theorem uU (s:Bs):∀ l:List Bs,s∉l→mPutL true (ents l) (str (ba s)) (bool true)=ents (l++[s])
 | [],_=>rfl
 | n :: l,h=>by
  simp only [List.mem_cons,not_or] at h
  have ih:=uU s l h.2
  rw [ents,ents] at ih
  rw [ents,ents,List.map_cons,mPutL,mIs_ba,decide_eq_false (Ne.symm h.1),if_neg (by decide),ih]
  simp
def uM : List Bs→List Fld→Int
 | _,[]=>0
 | seen,f :: r=>if uE f.nm=false then 8 else if f.nm∈seen then 7 else if f.kd<0∨3≤f.kd then 1 else uM (seen++[f.nm]) r
def Sch.chk (q:Sch):Int:=if nameB q.nm=false then 8 else if 8<q.fs.length then 5 else uM [] q.fs
def Sch.Short (q:Sch):Prop:=q.nm.length<1152921504606846976∧q.fs.length<1152921504606846976∧∀ f∈q.fs,f.nm.length<1152921504606846976
theorem P_Check (q:Sch) (hq:q.Short):PCall EE 113 [q.enc] (int q.chk):=by
 obtain ⟨hqn,hl,hf⟩:=hq
 have kcl:=Fld.closedI q.fs
 rw [Sch.enc_eq,Sch.chk]
 generalize q.fs=l at *
 have pn:=P_name q.nm hqn
 clear hqn
 generalize hn:nameB q.nm=bn at *
 generalize ba q.nm=qn at *
 refine zt ?_;unhygienic intros
 generalize hes:mapE Fld.enc l=es at *
 have hel:es.length=l.length:=by rw [← hes,zr]
 have kcA:AV.closedL [str qn,.isl 2 es]=true:=by simp [AV.closedL,y6,kcl]
 cases bn with
 | false =>
  rw [if_pos rfl]
  refine fB T113 [.t 2] ?_
  refine Aq ?_
  refine oPA pn ?_
  have fz:=hel
  refine Cq ?_
  refine oC (fun c1=>?_) fun c1=>?_
  ·
   simp [ee] at c1
   refine Aq ?_
   exact fV
  simp [ee] at c1
 | true =>
 rw [if_neg (by decide)]
 by_cases h8:8<l.length
 · have k8:iLt 8 (lenA es)=true:=by simp only [ee];simp;omega
   rw [if_pos h8]
   refine fB T113 [.t 2] ?_
   refine Aq ?_
   refine oPA pn ?_
   have fz:=k8
   refine Cq ?_
   refine oC (fun c1=>?_) fun c1=>?_
   ·
    simp [ee] at c1
   simp [ee] at c1
   refine Cq ?_
   refine Aq ?_
   exact fV
 have k8:iLt 8 (lenA es)=false:=by simp only [ee];simp;omega
 rw [if_neg h8]
 refine fB T113 [.t 2] ?_
 refine Aq ?_
 refine oPA pn ?_
 have fz:=k8
 refine Cq ?_
 refine oC (fun c1=>?_) fun c1=>?_
 ·
  simp [ee] at c1
 simp [ee] at c1
 clear c1
 refine Cq ?_
 refine Aq ?_
 refine za (ι:=List Fld × List Fld × Int × List (AV × AV)) (fun p=>([(18,int p.2.2.1),(17,int (lenA es)),(16,.isl 2 es),(3,.amap 0)],[.amap p.2.2.2])) (fun p=>l=p.1++p.2.1∧p.2.2.1=p.1.length∧p.2.2.2=ents (p.1.map Fld.nm)∧uM [] l=uM (p.1.map Fld.nm) p.2.1) (fun p=>p.2.1.length) ([],l,0,[]) ⟨rfl,rfl,rfl,rfl⟩ ?_ ?_
 · have kcM:y3 []=true:=rfl
   exact (eS [.gone,.to 0] [some 1])
 rintro ⟨d,r,i,m⟩ ⟨g1,gi,gm,gc⟩
 dsimp only at g1 gi gm gc ⊢
 cases r with
 | nil =>
  have L1:=zw g1
  try simp only [List.length] at L1
  have hc:iLt i (lenA es)=false:=xg e_iLt e_lenA (by omega)
  rw [gc,uM]
  have fz:=hc
  refine Cq ?_
  refine Aq ?_
  refine zl ?_
  refine Aq ?_
  exact fV
 | cons f r =>
  have L1:=zw g1
  try simp only [List.length] at L1
  have hc:iLt i (lenA es)=true:=xf e_iLt e_lenA (by omega)
  have hat:=z7 e_atA hes g1 gi
  rw [Fld.enc_eq] at hat
  have hi2:iAdd .i64 i 1=((d++[f]).length:Int):=by rw [List.length_append];exact yq e_iAdd gi (by omega)
  have pf:=P_fieldName f.nm (hf f (by rw [g1];simp))
  have gc2:uM (d.map Fld.nm++[f.nm]) r=uM ((d++[f]).map Fld.nm) r:=by simp
  rw [uM,gc2] at gc
  rw [gc]
  clear hf
  have kokL:mOkL true m (str (ba f.nm))=true:=by rw [gm];exact ut _ _
  have kok:mOk true m (str (ba f.nm))=true:=by simp only [ee];rw [gm];exact ut _ _
  have kget:mGet true m (str (ba f.nm)) (bool false)=bool (decide (f.nm∈d.map Fld.nm)):=by simp only [ee];rw [gm];exact uZ _ _
  have kput:f.nm∉d.map Fld.nm→mPut true m (str (ba f.nm)) (bool true)=ents ((d++[f]).map Fld.nm):=fun h=>by simp only [ee];rw [gm,uU _ _ h];simp
  have kk1:f.kd<0→iLt f.kd 0=true:=fun h=>by simp only [ee];simpa using h
  have kk2:¬ f.kd<0→iLt f.kd 0=false:=fun h=>by simp only [ee];simpa using h
  have kk3:3≤f.kd→iLe 3 f.kd=true:=fun h=>by simp only [ee];simpa using h
  have kk4:¬ 3≤f.kd→iLe 3 f.kd=false:=fun h=>by simp only [ee];simpa using h
  clear gc2
  generalize uE f.nm=bf at *
  generalize hin:decide (f.nm∈d.map Fld.nm)=bi at *
  generalize ba f.nm=fs at *
  generalize f.kd=fk at *
  cases bf with
  | false =>
   rw [if_pos rfl]
   have fz:=And.intro hc hat
   refine Cq ?_
   refine Cr ?_
   refine oPA pf ?_
   refine Cq ?_
   refine oC (fun c1=>?_) fun c1=>?_
   ·
    simp [ee] at c1
    refine Aq ?_
    refine zi ?_
    refine Aq ?_
    exact fV
   simp [ee] at c1
  | true =>
  rw [if_neg (by decide)]
  cases bi with
  | true =>
   rw [if_pos (of_decide_eq_true hin)]
   have fz:=And.intro hc (And.intro hat (And.intro kget kok))
   refine Cq ?_
   refine Cr ?_
   refine oPA pf ?_
   refine Cq ?_
   refine oC (fun c1=>?_) fun c1=>?_
   ·
    simp [ee] at c1
   simp [ee] at c1
   refine Cq ?_
   refine Aq ?_
   refine zi ?_
   refine Aq ?_
   exact fV
  | false =>
  rw [if_neg (of_decide_eq_false hin)]
  have kp:=kput (of_decide_eq_false hin)
  clear kput
  by_cases n0:fk<0
  · have kk:=kk1 n0
    rw [if_pos (Or.inl n0)]
    have fz:=And.intro hc (And.intro hat (And.intro kget (And.intro kok kk)))
    refine Cq ?_
    refine Cr ?_
    refine oPA pf ?_
    refine Cq ?_
    refine oC (fun c1=>?_) fun c1=>?_
    ·
     simp [ee] at c1
    simp [ee] at c1
    refine Cq ?_
    refine Cq ?_
    refine Cr ?_
    refine oC (fun c2=>?_) fun c2=>?_
    ·
     simp [ee] at c2
     refine Aq ?_
     refine zi ?_
     refine Aq ?_
     exact fV
    simp [ee] at c2
  have kk:=kk2 n0
  by_cases n3:3≤fk
  · have kkb:=kk3 n3
    rw [if_pos (Or.inr n3)]
    have fz:=And.intro hc (And.intro hat (And.intro kget (And.intro kok (And.intro kk kkb))))
    refine Cq ?_
    refine Cr ?_
    refine oPA pf ?_
    refine Cq ?_
    refine oC (fun c1=>?_) fun c1=>?_
    ·
     simp [ee] at c1
    simp [ee] at c1
    refine Cq ?_
    refine Cq ?_
    refine Cr ?_
    refine oC (fun c2=>?_) fun c2=>?_
    ·
     simp [ee] at c2
     refine Aq ?_
     refine zi ?_
     refine Aq ?_
     exact fV
    simp [ee] at c2
  have kkb:=kk4 n3
  rw [if_neg (by omega)]
  rw [if_neg (by decide),if_neg (of_decide_eq_false hin),if_neg (by omega)] at gc
  have kcM:y3 (mPut true m (str fs) (bool true))=true:=by rw [kp];exact uS _
  have fz:=And.intro hc (And.intro hat (And.intro kget (And.intro kok (And.intro kk kkb))))
  refine Cq ?_
  refine Cr ?_
  refine oPA pf ?_
  refine Cq ?_
  refine oC (fun c1=>?_) fun c1=>?_
  ·
   simp [ee] at c1
  simp [ee] at c1
  refine Cq ?_
  refine Cq ?_
  refine Cr ?_
  refine oC (fun c2=>?_) fun c2=>?_
  ·
   simp [ee] at c2
  simp [ee] at c2
  refine go rfl hX 60 (by conv=>lhs;cbv) ?_ ?_
  · simp only [ee];simp only [kokL];trivial
  refine zp (d++[f],r,iAdd .i64 i 1,mPut true m (str fs) (bool true)) ⟨by simp [g1],hi2,kp,gc ▸ rfl⟩ (by simp) (eS [.to 0,.gone] [some 0])
def Vl.sizeE (v:Vl):Int:=if v.kind=0∧(v.num < -1099511627776∨1099511627776<v.num) then 2 else if v.kind=1∧v.num≠0∧v.num≠1 then 2 else if 64<(v.text.size:Int) then 13 else 0
def Vl.chk (v:Vl):Int:=if v.kind=0∨v.kind=1 then (if v.text≠⟨#[]⟩ then 3 else v.sizeE) else if v.kind=2 then (if v.num≠0 then 3 else v.sizeE) else 1
def vJ (k:Int) (v:Vl):Bool:=decide (v.kind=0∨k=4∨k=5)
theorem bs_nil {a:ByteArray}:a.toList=(ByteArray.mk #[]).toList↔a=⟨#[]⟩:=⟨fun h=>u7 h,fun h=>by rw [h]⟩
theorem P_value_size (v:Vl):PCall EE 193 [v.enc] (int v.sizeE):=by
 obtain ⟨k,n,t⟩:=v
 unfold Vl.enc Vl.cs
 dsimp only
 obtain ⟨R,hR⟩:∃ R,R=Vl.sizeE ⟨k,n,t⟩:=⟨_,rfl⟩
 rw [← hR]
 unfold Vl.sizeE at hR
 dsimp only at hR
 refine zt ?_;unhygienic intros
 refine fB T193 [.t 2] ?_
 refine goA 0 ?_
 refine nsB hX (by conv=>lhs;cbv) ?_
 refine goA 0 ?_
 refine oC (fun c1=>?_) fun c1=>?_
 ·
  simp [ee] at c1
  refine Aq ?_
  exact fI (h:=by rw [hR];(repeat' split)<;>first | rfl | (exfalso;omega))
 simp [ee] at c1
 refine goA 0 ?_
 refine oC (fun c2=>?_) fun c2=>?_
 ·
  simp [ee] at c2
  refine Aq ?_
  exact fI (h:=by rw [hR];(repeat' split)<;>first | rfl | (exfalso;omega))
 simp [ee] at c2
 refine goA 0 ?_
 refine oC (fun c3=>?_) fun c3=>?_
 ·
  simp [ee] at c3
  refine Aq ?_
  exact fI (h:=by rw [hR];(repeat' split)<;>first | rfl | (exfalso;omega))
 simp [ee] at c3
 refine Aq ?_
 exact fI (h:=by rw [hR];(repeat' split)<;>first | rfl | (exfalso;omega))
theorem P_value_Check (v:Vl):PCall EE 176 [v.enc] (int v.chk):=by
 have hs:=P_value_size v
 obtain ⟨k,n,t⟩:=v
 unfold Vl.enc Vl.cs at *
 dsimp only at *
 obtain ⟨R,hR⟩:∃ R,R=Vl.chk ⟨k,n,t⟩:=⟨_,rfl⟩
 rw [← hR]
 unfold Vl.chk at hR
 generalize Vl.sizeE ⟨k,n,t⟩=sz at *
 dsimp only at hR
 refine zt ?_;unhygienic intros
 refine fB T176 [.t 2] ?_
 by_cases ht:t=⟨#[]⟩
 · have hw:sNe t ⟨#[]⟩=false:=by simp only [ee];rw [ht];simp
   have ht2:¬ (t≠⟨#[]⟩):=fun h=>h ht
   simp only [ht2,if_false] at hR
   have fz:=hw
   refine Cq ?_
   refine oC (fun c1=>?_) fun c1=>?_
   ·
    simp [ee] at c1
    refine Cq ?_
    refine oC (fun c2=>?_) fun c2=>?_
    ·
     simp [ee] at c2
     refine Cq ?_
     refine Aq ?_
     refine oPA hs ?_
     refine Aq ?_
     exact fI (h:=by rw [hR];(repeat' split)<;>first | rfl | (exfalso;omega))
    simp [ee] at c2
    refine Cq ?_
    refine oC (fun c3=>?_) fun c3=>?_
    ·
     simp [ee] at c3
     refine Cq ?_
     refine oC (fun c4=>?_) fun c4=>?_
     ·
      simp [ee] at c4
      refine Aq ?_
      exact fI (h:=by rw [hR];(repeat' split)<;>first | rfl | (exfalso;omega))
     simp [ee] at c4
     refine Aq ?_
     refine oPA hs ?_
     refine Aq ?_
     exact fI (h:=by rw [hR];(repeat' split)<;>first | rfl | (exfalso;omega))
    simp [ee] at c3
    refine Aq ?_
    exact fI (h:=by rw [hR];(repeat' split)<;>first | rfl | (exfalso;omega))
   simp [ee] at c1
   refine Cq ?_
   refine oC (fun c5=>?_) fun c5=>?_
   ·
    simp [ee] at c5
    refine Cq ?_
    refine Aq ?_
    refine oPA hs ?_
    refine Aq ?_
    exact fI (h:=by rw [hR];(repeat' split)<;>first | rfl | (exfalso;omega))
   simp [ee] at c5
   refine Cq ?_
   refine oC (fun c6=>?_) fun c6=>?_
   ·
    simp [ee] at c6
    refine Cq ?_
    refine oC (fun c7=>?_) fun c7=>?_
    ·
     simp [ee] at c7
     refine Aq ?_
     exact fI (h:=by rw [hR];(repeat' split)<;>first | rfl | (exfalso;omega))
    simp [ee] at c7
    refine Aq ?_
    refine oPA hs ?_
    refine Aq ?_
    exact fI (h:=by rw [hR];(repeat' split)<;>first | rfl | (exfalso;omega))
   simp [ee] at c6
   refine Aq ?_
   exact fI (h:=by rw [hR];(repeat' split)<;>first | rfl | (exfalso;omega))
 have hw:sNe t ⟨#[]⟩=true:=by simp only [ee];simpa using fun h=>ht (u7 h)
 have ht2:t≠⟨#[]⟩:=ht
 simp only [ne_eq,ht,not_false_eq_true,if_true] at hR
 have fz:=hw
 refine Cq ?_
 refine oC (fun c1=>?_) fun c1=>?_
 ·
  simp [ee] at c1
  refine Cq ?_
  refine oC (fun c2=>?_) fun c2=>?_
  ·
   simp [ee] at c2
   refine Cq ?_
   refine Aq ?_
   exact fI (h:=by rw [hR];(repeat' split)<;>first | rfl | (exfalso;omega))
  simp [ee] at c2
  refine Cq ?_
  refine oC (fun c3=>?_) fun c3=>?_
  ·
   simp [ee] at c3
   refine Cq ?_
   refine oC (fun c4=>?_) fun c4=>?_
   ·
    simp [ee] at c4
    refine Aq ?_
    exact fI (h:=by rw [hR];(repeat' split)<;>first | rfl | (exfalso;omega))
   simp [ee] at c4
   refine Aq ?_
   refine oPA hs ?_
   refine Aq ?_
   exact fI (h:=by rw [hR];(repeat' split)<;>first | rfl | (exfalso;omega))
  simp [ee] at c3
  refine Aq ?_
  exact fI (h:=by rw [hR];(repeat' split)<;>first | rfl | (exfalso;omega))
 simp [ee] at c1
 refine Cq ?_
 refine oC (fun c5=>?_) fun c5=>?_
 ·
  simp [ee] at c5
  refine Cq ?_
  refine Aq ?_
  exact fI (h:=by rw [hR];(repeat' split)<;>first | rfl | (exfalso;omega))
 simp [ee] at c5
 refine Cq ?_
 refine oC (fun c6=>?_) fun c6=>?_
 ·
  simp [ee] at c6
  refine Cq ?_
  refine oC (fun c7=>?_) fun c7=>?_
  ·
   simp [ee] at c7
   refine Aq ?_
   exact fI (h:=by rw [hR];(repeat' split)<;>first | rfl | (exfalso;omega))
  simp [ee] at c7
  refine Aq ?_
  refine oPA hs ?_
  refine Aq ?_
  exact fI (h:=by rw [hR];(repeat' split)<;>first | rfl | (exfalso;omega))
 simp [ee] at c6
 refine Aq ?_
 exact fI (h:=by rw [hR];(repeat' split)<;>first | rfl | (exfalso;omega))
theorem P_expr_suits (k:Int) (v:Vl):PCall EE 161 [int k,v.enc] (bool (vJ k v)):=by
 obtain ⟨vk,n,t⟩:=v
 unfold Vl.enc Vl.cs
 dsimp only
 obtain ⟨R,hR⟩:∃ R,R=vJ k ⟨vk,n,t⟩:=⟨_,rfl⟩
 rw [← hR]
 unfold vJ at hR
 dsimp only at hR
 refine zt ?_;unhygienic intros
 refine fB T161 [.t 4] ?_
 refine Aq ?_
 exact fBo (h:=by rw [hR,Bool.eq_iff_iff];simp [ee,or_assoc])
def vp (o:Int):Bool:=decide (o=1∨o=4∨o=2∨o=3)
def vM (o:Int):Bool:=decide (o=1∨o=4)
def wC (o:Int):Int:=if o<0∨12<o then 0 else if o<5 then 0 else if o=12 then 1 else 2
def wD (o:Int):Bool:=decide (0≤o∧o≤12)
theorem P_expr_uses (o:Int):PCall EE 159 [int o] (.tup [bool (vp o),bool (vM o)]):=by
 obtain ⟨R,hR⟩:∃ R,R=vp o:=⟨_,rfl⟩
 obtain ⟨R2,hR2⟩:∃ R,R=vM o:=⟨_,rfl⟩
 rw [← hR,← hR2]
 unfold vp at hR
 unfold vM at hR2
 refine zt ?_;unhygienic intros
 refine fB T159 [.t 2,.t 3] ?_
 refine goA 0 ?_
 refine oC (fun c1=>?_) fun c1=>?_
 ·
  simp [ee] at c1
  refine goA 0 ?_
  refine oC (fun c2=>?_) fun c2=>?_
  ·
   simp [ee] at c2
   refine Aq ?_
   refine zD rfl rfl ?_
   exact Fz.none (.tup' ⟨.of (congrArg bool (by rw [hR];symm;first | exact decide_eq_true (by omega) | exact decide_eq_false (by omega))),.of (congrArg bool (by rw [hR2];symm;first | exact decide_eq_true (by omega) | exact decide_eq_false (by omega))),trivial⟩)
  simp [ee] at c2
  refine goA 0 ?_
  refine oC (fun c3=>?_) fun c3=>?_
  ·
   simp [ee] at c3
   refine goA 0 ?_
   refine oC (fun c4=>?_) fun c4=>?_
   ·
    simp [ee] at c4
    refine Aq ?_
    refine zD rfl rfl ?_
    exact Fz.none (.tup' ⟨.of (congrArg bool (by rw [hR];symm;first | exact decide_eq_true (by omega) | exact decide_eq_false (by omega))),.of (congrArg bool (by rw [hR2];symm;first | exact decide_eq_true (by omega) | exact decide_eq_false (by omega))),trivial⟩)
   simp [ee] at c4
   refine Aq ?_
   refine zD rfl rfl ?_
   exact Fz.none (.tup' ⟨.of (congrArg bool (by rw [hR];symm;first | exact decide_eq_true (by omega) | exact decide_eq_false (by omega))),.of (congrArg bool (by rw [hR2];symm;first | exact decide_eq_true (by omega) | exact decide_eq_false (by omega))),trivial⟩)
  simp [ee] at c3
  refine goA 0 ?_
  refine oC (fun c5=>?_) fun c5=>?_
  ·
   simp [ee] at c5
   refine Aq ?_
   refine zD rfl rfl ?_
   exact Fz.none (.tup' ⟨.of (congrArg bool (by rw [hR];symm;first | exact decide_eq_true (by omega) | exact decide_eq_false (by omega))),.of (congrArg bool (by rw [hR2];symm;first | exact decide_eq_true (by omega) | exact decide_eq_false (by omega))),trivial⟩)
  simp [ee] at c5
  refine Aq ?_
  refine zD rfl rfl ?_
  exact Fz.none (.tup' ⟨.of (congrArg bool (by rw [hR];symm;first | exact decide_eq_true (by omega) | exact decide_eq_false (by omega))),.of (congrArg bool (by rw [hR2];symm;first | exact decide_eq_true (by omega) | exact decide_eq_false (by omega))),trivial⟩)
 simp [ee] at c1
 refine goA 0 ?_
 refine oC (fun c6=>?_) fun c6=>?_
 ·
  simp [ee] at c6
  refine Aq ?_
  refine zD rfl rfl ?_
  exact Fz.none (.tup' ⟨.of (congrArg bool (by rw [hR];symm;first | exact decide_eq_true (by omega) | exact decide_eq_false (by omega))),.of (congrArg bool (by rw [hR2];symm;first | exact decide_eq_true (by omega) | exact decide_eq_false (by omega))),trivial⟩)
 simp [ee] at c6
 refine goA 0 ?_
 refine oC (fun c7=>?_) fun c7=>?_
 ·
  simp [ee] at c7
  refine goA 0 ?_
  refine oC (fun c8=>?_) fun c8=>?_
  ·
   simp [ee] at c8
   refine Aq ?_
   refine zD rfl rfl ?_
   exact Fz.none (.tup' ⟨.of (congrArg bool (by rw [hR];symm;first | exact decide_eq_true (by omega) | exact decide_eq_false (by omega))),.of (congrArg bool (by rw [hR2];symm;first | exact decide_eq_true (by omega) | exact decide_eq_false (by omega))),trivial⟩)
  simp [ee] at c8
  refine Aq ?_
  refine zD rfl rfl ?_
  exact Fz.none (.tup' ⟨.of (congrArg bool (by rw [hR];symm;first | exact decide_eq_true (by omega) | exact decide_eq_false (by omega))),.of (congrArg bool (by rw [hR2];symm;first | exact decide_eq_true (by omega) | exact decide_eq_false (by omega))),trivial⟩)
 simp [ee] at c7
 refine goA 0 ?_
 refine oC (fun c9=>?_) fun c9=>?_
 ·
  simp [ee] at c9
  refine Aq ?_
  refine zD rfl rfl ?_
  exact Fz.none (.tup' ⟨.of (congrArg bool (by rw [hR];symm;first | exact decide_eq_true (by omega) | exact decide_eq_false (by omega))),.of (congrArg bool (by rw [hR2];symm;first | exact decide_eq_true (by omega) | exact decide_eq_false (by omega))),trivial⟩)
 simp [ee] at c9
 refine Aq ?_
 refine zD rfl rfl ?_
 exact Fz.none (.tup' ⟨.of (congrArg bool (by rw [hR];symm;first | exact decide_eq_true (by omega) | exact decide_eq_false (by omega))),.of (congrArg bool (by rw [hR2];symm;first | exact decide_eq_true (by omega) | exact decide_eq_false (by omega))),trivial⟩)
theorem P_expr_arity (o:Int):PCall EE 158 [int o] (.tup [int (wC o),bool (wD o)]):=by
 obtain ⟨R,hR⟩:∃ R,R=wC o:=⟨_,rfl⟩
 obtain ⟨R2,hR2⟩:∃ R,R=wD o:=⟨_,rfl⟩
 rw [← hR,← hR2]
 unfold wC at hR
 unfold wD at hR2
 refine zt ?_;unhygienic intros
 refine fB T158 [.t 2,.t 3] ?_
 refine goA 0 ?_
 refine oC (fun c1=>?_) fun c1=>?_
 ·
  simp [ee] at c1
  refine Aq ?_
  refine zD rfl rfl ?_
  exact Fz.none (.tup' ⟨.of (congrArg int (by rw [hR];(repeat' split)<;>first | rfl | omega)),.of (congrArg bool (by rw [hR2];simp;omega)),trivial⟩)
 simp [ee] at c1
 refine goA 0 ?_
 refine oC (fun c2=>?_) fun c2=>?_
 ·
  simp [ee] at c2
  refine Aq ?_
  refine zD rfl rfl ?_
  exact Fz.none (.tup' ⟨.of (congrArg int (by rw [hR];(repeat' split)<;>first | rfl | omega)),.of (congrArg bool (by rw [hR2];simp;omega)),trivial⟩)
 simp [ee] at c2
 refine goA 0 ?_
 refine oC (fun c3=>?_) fun c3=>?_
 ·
  simp [ee] at c3
  refine Aq ?_
  refine zD rfl rfl ?_
  exact Fz.none (.tup' ⟨.of (congrArg int (by rw [hR];(repeat' split)<;>first | rfl | omega)),.of (congrArg bool (by rw [hR2];simp;omega)),trivial⟩)
 simp [ee] at c3
 refine Aq ?_
 refine zD rfl rfl ?_
 exact Fz.none (.tup' ⟨.of (congrArg int (by rw [hR];(repeat' split)<;>first | rfl | omega)),.of (congrArg bool (by rw [hR2];simp;omega)),trivial⟩)
def Vl0 : Vl:=⟨0,0,⟨#[]⟩⟩
theorem Vl.eq0 {v:Vl}:v=Vl0↔v.kind=0∧v.num=0∧v.text.toList=[]:=by
 have hn:(ByteArray.mk #[]).toList=[]:=by simp
 rw [← hn]
 obtain ⟨k,n,t⟩:=v
 simp only [Vl0,Vl.mk.injEq,bs_nil]
open Classical in
noncomputable def Ex.consE (e:Ex):Int:=if e.val.chk≠0 then e.val.chk else if e.op=4∧(vJ e.kind e.val=false∨(e.kind=1∧e.val≠Vl0)) then 9 else 0
def Ex.formB (e:Ex):Prop:=(vp e.op=true∨e.var=0)∧(vM e.op=true∨e.fld=0)∧(e.op=4∨e.kind=0)∧((e.op=4∨e.op=0)∨e.val=Vl0)
open Classical in
noncomputable def Ex.nodeE (e:Ex):Int :=
 if wD e.op=false then 1 else if (e.args.length:Int)≠wC e.op then 15
 else if (vp e.op=true∧(e.var<0∨16≤e.var))∨(vM e.op=true∧(e.fld<0∨8≤e.fld)) then 2
 else if e.op=4∧(e.kind<1∨5<e.kind) then 1
 else if (e.op=4∨e.op=0)∧e.consE≠0 then e.consE
 else if e.formB then 0 else 3
theorem P_expr_constants (e:Ex):PCall EE 160 [e.enc] (int e.consE):=by
 have hs:=P_expr_suits e.kind e.val
 have hk:=P_value_Check e.val
 have h0:=@Vl.eq0 e.val
 have hcl:=Ex.closed e
 obtain ⟨R,hR⟩:∃ R,R=e.consE:=⟨_,rfl⟩
 rw [← hR]
 unfold Ex.consE at hR
 generalize vJ e.kind e.val=sb at *
 generalize e.val.chk=ck at *
 obtain ⟨o,a,v,f,k,⟨xk,xn,xt⟩⟩:=e
 simp only [Ex.op,Ex.kind,Ex.val] at *
 rw [Ex.enc_mk] at hcl ⊢
 unfold Vl.enc Vl.cs at *
 dsimp only at *
 refine zt ?_;unhygienic intros
 generalize mapE Ex.enc a=es at *
 refine fB T160 [.t 2] ?_
 refine Aq ?_
 refine oPA hk ?_
 refine goA 0 ?_
 refine oC (fun c1=>?_) fun c1=>?_
 ·
  simp [ee] at c1
  refine Aq ?_
  exact fG
 simp [ee] at c1
 refine goA 0 ?_
 refine zj rfl rfl (fun c2=>?_) (fun c2=>?_)
 ·
  simp [ee] at c2
  refine Aq ?_
  refine oPG hs ?_
  refine goA 0 ?_
  refine goA 1 ?_
  refine goA 1 ?_
  refine nsB hX (by conv=>lhs;cbv) ?_
  refine goA 0 ?_
  refine oC (fun c3=>?_) fun c3=>?_
  ·
   simp [ee] at c3
   refine Aq ?_
   exact fG
  simp [ee] at c3
  refine Aq ?_
  exact fG
 simp [ee] at c2
 refine Aq ?_
 refine zg rfl rfl ?_
 refine Aq ?_
 exact fG
theorem P_expr_node (e:Ex) (hlen:e.args.length<1048576):PCall EE 132 [e.enc] (int e.nodeE):=by
 have hu:=P_expr_uses e.op
 have har:=P_expr_arity e.op
 have hk:=P_expr_constants e
 have h0:=@Vl.eq0 e.val
 have hcl:=Ex.closed e
 obtain ⟨R,hR⟩:∃ R,R=e.nodeE:=⟨_,rfl⟩
 rw [← hR]
 unfold Ex.nodeE Ex.formB at hR
 generalize vp e.op=uv at *
 generalize vM e.op=uf at *
 generalize wC e.op=an at *
 generalize wD e.op=ab at *
 generalize e.consE=ck at *
 obtain ⟨o,a,v,f,k,⟨xk,xn,xt⟩⟩:=e
 simp only [Ex.op,Ex.kind,Ex.val,Ex.args,Ex.var,Ex.fld] at *
 rw [Ex.enc_mk] at hcl hk ⊢
 dsimp only at *
 refine zt ?_;unhygienic intros
 generalize hes:mapE Ex.enc a=es at *
 have hel:es.length=a.length:=by rw [← hes,zr]
 refine fB T132 [.t 2] ?_
 refine Aq ?_
 refine oPA har ?_
 refine goA 0 ?_
 refine oC (fun c1=>?_) fun c1=>?_
 ·
  simp [ee] at c1
  refine Aq ?_
  exact fG
 simp [ee] at c1
 refine goA 0 ?_
 refine oC (fun c2=>?_) fun c2=>?_
 ·
  simp [ee] at c2
  refine Aq ?_
  exact fG
 simp [ee] at c2
 refine Aq ?_
 refine oPA hu ?_
 refine goA 0 ?_
 refine nsB hX (by conv=>lhs;cbv) ?_
 refine goA 0 ?_
 refine nsB hX (by conv=>lhs;cbv) ?_
 refine goA 0 ?_
 refine oC (fun c3=>?_) fun c3=>?_
 ·
  simp [ee] at c3
  refine Aq ?_
  exact fG
 simp [ee] at c3
 refine goA 0 ?_
 refine nsB hX (by conv=>lhs;cbv) ?_
 refine goA 0 ?_
 refine oC (fun c4=>?_) fun c4=>?_
 ·
  simp [ee] at c4
  refine Aq ?_
  exact fG
 simp [ee] at c4
 refine goA 0 ?_
 refine oC (fun c5=>?_) fun c5=>?_
 ·
  simp [ee] at c5
  refine Aq ?_
  refine oPA hk ?_
  refine goA 0 ?_
  refine oC (fun c6=>?_) fun c6=>?_
  ·
   simp [ee] at c6
   refine Aq ?_
   exact fG
  simp [ee] at c6
  refine goA 0 ?_
  refine nsB hX (by conv=>lhs;cbv) ?_
  refine goA 0 ?_
  refine nsB hX (by conv=>lhs;cbv) ?_
  refine goA 0 ?_
  refine nsB hX (by conv=>lhs;cbv) ?_
  refine goA 0 ?_
  refine oC (fun c7=>?_) fun c7=>?_
  ·
   simp [ee] at c7
   refine Aq ?_
   exact fG
  simp [ee] at c7
  refine Aq ?_
  exact fG
 simp [ee] at c5
 refine goA 0 ?_
 refine nsB hX (by conv=>lhs;cbv) ?_
 refine goA 0 ?_
 refine nsB hX (by conv=>lhs;cbv) ?_
 refine goA 0 ?_
 refine nsB hX (by conv=>lhs;cbv) ?_
 refine goA 0 ?_
 refine oC (fun c8=>?_) fun c8=>?_
 ·
  simp [ee] at c8
  refine Aq ?_
  exact fG
 simp [ee] at c8
 refine Aq ?_
 exact fG
def zu {α:Type} (F:α→Int):List α→Int
 | []=>0
 | q :: r=>if F q≠0 then F q else zu F r
theorem yr {α:Type} (F:α→Int):∀ a b:List α,zu F (a++b)=if zu F a≠0 then zu F a else zu F b
 | [],b=>by simp [zu]
 | q :: a,b=>by
  rw [List.cons_append,zu,zu,yr F a b]
  by_cases h:F q=0<;>simp [h]
theorem P_expr_visit (g:FuncId) (cs:List AV) (hcs:AV.closedL cs=true) (F:Ex→Int):∀ e:Ex,e.Sm→(∀ q∈e.nodes,PCall EE g ([q.enc]++cs) (int (F q)))→PCall EE 131 [e.enc,.fn g cs] (int (zu F e.nodes)):=by
 refine Ex.ind ?_
 intro o a v f k x ih hs hF
 have hlen:=hs.len
 have hih:∀ q∈a,PCall EE 131 [q.enc,.fn g cs] (int (zu F q.nodes)):=fun q hq=>ih q hq (hs.arg hq) fun q2 hq2=>hF q2 (by
  rw [Ex.nodes]
  obtain ⟨d,r,rfl⟩:=List.append_of_mem hq
  simp [Ex.nodesL_append,Ex.nodesL,hq2])
 have hcl:=Ex.closedI a
 obtain ⟨pp,hpp⟩:∃ pp,pp=Ex.mk o a v f k x:=⟨_,rfl⟩
 have hh:=hF pp (by rw [Ex.nodes,hpp];simp)
 have hpe:pp.enc=(Ex.mk o a v f k x).enc:=by rw [hpp]
 rw [Ex.nodes,← hpp]
 obtain ⟨xk,xn,xt⟩:=x
 rw [Ex.enc_mk] at hpe
 dsimp only at hpe
 have hpc:=Ex.closed pp
 rw [hpe] at hh hpc ⊢
 obtain ⟨R,hR⟩:∃ R,R=zu F (pp :: Ex.nodesL a):=⟨_,rfl⟩
 rw [← hR]
 rw [zu] at hR
 have hfn:(AV.fn g cs).closed=true:=by simp [AV.closed,hcs]
 clear ih hs hF hpp hpe
 refine zt ?_;unhygienic intros
 generalize hes:mapE Ex.enc a=es at *
 have hel:es.length=a.length:=by rw [← hes,zr]
 generalize F pp=fp at *
 refine fB T131 [.t 4] ?_
 by_cases h1:fp=0
 rotate_left
 · have w1:iNe fp 0=true:=by simp only [ee];simpa using h1
   have hR:R=fp:=by rw [hR,if_pos h1]
   refine Aq ?_
   refine yI (args:=[AV.agg [int o,AV.isl 8 es,int v,int f,int k,int xk,int xn,str xt]]++cs) rfl rfl rfl rfl hh (by simp [AV.closedL,hpc,hcs]) ?_
   have fz:=w1
   refine Cq ?_
   refine Aq ?_
   exact fI (h:=hR.symm)
 have w1:iNe fp 0=false:=by simp only [ee];simpa using h1
 have hR:R=zu F (Ex.nodesL a):=by rw [hR,if_neg (by simpa using h1)]
 refine Aq ?_
 refine yI (args:=[AV.agg [int o,AV.isl 8 es,int v,int f,int k,int xk,int xn,str xt]]++cs) rfl rfl rfl rfl hh (by simp [AV.closedL,hpc,hcs]) ?_
 have fz:=w1
 refine Cq ?_
 refine Aq ?_
 refine za (ι:=List Ex × List Ex × Int) (fun p=>([(18,int p.2.2),(17,int (lenA es)),(16,.isl 8 es),(1,.fn g cs)],[])) (fun p=>a=p.1++p.2.1∧p.2.2=p.1.length∧R=zu F (Ex.nodesL p.2.1)) (fun p=>p.2.1.length) ([],a,0) ⟨rfl,rfl,hR⟩ ?_ ?_
 · exact (eS [.gone] [])
 rintro ⟨d,r,i⟩ ⟨g1,gi,gR⟩
 dsimp only at g1 gi gR ⊢
 cases r with
 | nil =>
  have L1:=zw g1
  try simp only [List.length] at L1
  have hc:iLt i (lenA es)=false:=xg e_iLt e_lenA (by omega)
  have gR:R=0:=gR
  have fz:=hc
  refine Cq ?_
  refine Aq ?_
  refine zl ?_
  refine Aq ?_
  exact fI (h:=gR.symm)
 | cons q r =>
  have L1:=zw g1
  try simp only [List.length] at L1
  have hc:iLt i (lenA es)=true:=xf e_iLt e_lenA (by omega)
  have hat:=z7 e_atA hes g1 gi
  have hq:=hih q (by rw [g1];simp)
  have hqc:=Ex.closed q
  rw [Ex.nodesL,yr] at gR
  obtain ⟨qO,qA,qV,qF,qK,qXk,qXn,qXt,hx⟩:=Ex.form q
  rw [hx] at hat hqc hq
  have hi2:iAdd .i64 i 1=((d++[q]).length:Int):=by rw [List.length_append];exact yq e_iAdd gi (by omega)
  generalize zu F q.nodes=fq at *
  by_cases h2:fq=0
  · have w2:iNe fq 0=false:=by simp only [ee];simpa using h2
    rw [if_neg (by simpa using h2)] at gR
    have fz:=And.intro hc (And.intro hat w2)
    refine Cq ?_
    refine Cr ?_
    refine oPA hq ?_
    refine Cq ?_
    refine Aq ?_
    refine zp (d++[q],r,iAdd .i64 i 1) ⟨by simp [g1],hi2,gR⟩ (by simp) (eS [.gone] [])
  have w2:iNe fq 0=true:=by simp only [ee];simpa using h2
  rw [if_pos h2] at gR
  have fz:=And.intro hc (And.intro hat w2)
  refine Cq ?_
  refine Cr ?_
  refine oPA hq ?_
  refine Cq ?_
  refine Aq ?_
  refine zi ?_
  refine Aq ?_
  exact fI (h:=gR.symm)
noncomputable def Ex.chk (e:Ex):Int:=if 64<e.cnt then 5 else if 12<e.dep then 12 else zu Ex.nodeE e.nodes
theorem Ex.Sm.len' {e:Ex} (h:e.Sm):e.args.length<1048576:=by obtain ⟨o,a,v,f,k,x⟩:=e;exact h.len
theorem P_expr_Check (e:Ex) (hs:e.Sm):PCall EE 89 [e.enc] (int e.chk):=by
 have h1:=P_expr_Size e hs
 have h2:=P_expr_visit 132 [] rfl Ex.nodeE e hs fun q hq=>P_expr_node q (hs.node q hq).len'
 have hcl:=Ex.closed e
 obtain ⟨R,hR⟩:∃ R,R=e.chk:=⟨_,rfl⟩
 rw [← hR]
 unfold Ex.chk at hR
 generalize zu Ex.nodeE e.nodes=fe at *
 obtain ⟨eO,eA,eV,eF,eK,eXk,eXn,eXt,hx⟩:=Ex.form e
 rw [hx] at h1 h2 hcl ⊢
 generalize hn:(e.cnt:Int)=cn at *
 generalize hd:(e.dep:Int)=dn at *
 refine zt ?_;unhygienic intros
 refine fB T89 [.t 2] ?_
 refine Aq ?_
 refine oPA h1 ?_
 refine goA 0 ?_
 refine oC (fun c1=>?_) fun c1=>?_
 ·
  simp [ee] at c1
  refine Aq ?_
  exact fG
 simp [ee] at c1
 refine goA 0 ?_
 refine oC (fun c2=>?_) fun c2=>?_
 ·
  simp [ee] at c2
  refine Aq ?_
  exact fG
 simp [ee] at c2
 refine Aq ?_
 refine oPA h2 ?_
 refine Aq ?_
 exact fG
theorem P_expr_Same : ∀ x y:Ex,x.Sm→PCall EE 174 [x.enc,y.enc] (bool (eqB x y)):=by
 refine Ex.ind ?_
 intro o a v f k x ih y hs
 obtain ⟨o2,a2,v2,f2,k2,x2⟩:=y
 obtain ⟨xk,xn,xt⟩:=x
 obtain ⟨yk,yn,yt⟩:=x2
 have hlen:=hs.len
 have hih:∀ q∈a,∀ q2,PCall EE 174 [q.enc,q2.enc] (bool (eqB q q2)):=fun q hq q2=>ih q hq q2 (hs.arg hq)
 have hcl:=Ex.closedI a
 have hcl2:=Ex.closedI a2
 obtain ⟨R,hR⟩:∃ R,R=eqB (Ex.mk o a v f k ⟨xk,xn,xt⟩) (Ex.mk o2 a2 v2 f2 k2 ⟨yk,yn,yt⟩):=⟨_,rfl⟩
 rw [← hR,Ex.enc_mk,Ex.enc_mk]
 clear ih hs
 refine zt ?_;unhygienic intros
 generalize hes:mapE Ex.enc a=es at *
 generalize hes2:mapE Ex.enc a2=es2 at *
 have hel:es.length=a.length:=by rw [← hes,zr]
 have hel2:es2.length=a2.length:=by rw [← hes2,zr]
 refine fB T174 [.t 4] ?_
 refine goA 0 ?_
 refine oC (fun c1=>?_) fun c1=>?_
 · simp [ee] at c1
   have hR:R=false:=by
    rw [hR];refine ul fun h=>?_
    simp only [Ex.mk.injEq,Vl.mk.injEq] at h
    obtain ⟨rfl,rfl,rfl,rfl,rfl,rfl,rfl,rfl⟩:=h
    simp [hel,hel2] at c1
   refine Aq ?_
   exact fBo (h:=hR.symm)
 simp [ee] at c1
 obtain ⟨⟨⟨⟨⟨h1,h2⟩,h3⟩,h4⟩,⟨h5,h6,h7⟩⟩,h8⟩:=c1
 have h7:=u7 h7
 subst h1 h2 h3 h4 h5 h6 h7
 have hl8:a.length=a2.length:=by omega
 have hR:R=eqB a a2:=by
  rw [hR]
  by_cases h:a=a2
  · rw [h,uP rfl,uP rfl]
  rw [ul h,ul (by simp [h])]
 refine Aq ?_
 refine za (ι:=List Ex × List Ex × List Ex × List Ex × Int) (fun p=>([(51,int p.2.2.2.2),(50,int (lenA es)),(2,.ptr 0 0),(3,.ptr 1 0)],[.cells [int o,.isl 8 es,int v,int f,int k,int xk,int xn,str xt],.cells [int o,.isl 8 es2,int v,int f,int k,int xk,int xn,str xt]])) (fun p=>a=p.1++p.2.1∧a2=p.2.2.1++p.2.2.2.1∧p.2.2.2.2=p.1.length∧p.1=p.2.2.1) (fun p=>p.2.1.length) ([],a,[],a2,0) ⟨rfl,rfl,rfl,rfl⟩ ?_ ?_
 · exact (eS [.to 0,.to 1] [some 0,some 1])
 rintro ⟨d,r,d2,r2,i⟩ ⟨g1,g2,gi,gd⟩
 dsimp only at g1 g2 gi gd ⊢
 subst gd
 cases r with
 | nil =>
  have L1:=zw g1
  try simp only [List.length] at L1
  have hc:iLt i (lenA es)=false:=xg e_iLt e_lenA (by omega)
  have L2:=zw g2
  try simp only [List.length] at L2
  have hr2:r2=[]:=List.length_eq_zero_iff.1 (by omega)
  have hR:R=true:=by rw [hR];exact uP (by rw [g1,g2,hr2])
  have fz:=hc
  refine Cq ?_
  refine Aq ?_
  refine zl ?_
  refine Aq ?_
  exact fBo (h:=hR.symm)
 | cons q r =>
  have L1:=zw g1
  try simp only [List.length] at L1
  have hc:iLt i (lenA es)=true:=xf e_iLt e_lenA (by omega)
  have hat:=z7 e_atA hes g1 gi
  have L2:=zw g2
  try simp only [List.length] at L2
  cases r2 with
  | nil=>exfalso;simp at L2;omega
  | cons q2 r2 =>
   have hat2:=z7 e_atA hes2 g2 gi
   have hq:=hih q (by rw [g1];simp) q2
   have hqc:=Ex.closed q
   have hqc2:=Ex.closed q2
   obtain ⟨qO,qA,qV,qF,qK,qXk,qXn,qXt,hx⟩:=Ex.form q
   obtain ⟨q2O,q2A,q2V,q2F,q2K,q2Xk,q2Xn,q2Xt,hx2⟩:=Ex.form q2
   rw [hx,hx2] at hq
   rw [hx] at hat hqc
   rw [hx2] at hat2 hqc2
   have hi2:iAdd .i64 i 1=((d++[q]).length:Int):=by rw [List.length_append];exact yq e_iAdd gi (by omega)
   by_cases hqq:q=q2
   · rw [uP hqq] at hq
     have hn:bNot true=false:=by simp [ee]
     have fz:=And.intro hc (And.intro hat (And.intro hat2 hn))
     refine Cq ?_
     refine Cr ?_
     refine zP rfl (by conv=>lhs;cbv) rfl ?_
     refine tgC ?_
     refine oPT hq ?_
     refine tgA ?_
     refine zH ⟨rfl,?_,?_⟩
     · simp only [zK,zV,List.cons_append,List.nil_append,List.append_nil];and_intros<;>first | trivial | (intro hp;first | rfl | exact absurd (show false=true from hp) Bool.false_ne_true)
     refine Cq ?_
     refine Aq ?_
     refine zp (d++[q],r,d++[q2],r2,iAdd .i64 i 1) ⟨by simp [g1],by simp [g2],hi2,by simp [hqq]⟩ (by simp) (eS [.to 0,.to 1] [some 0,some 1])
   rw [ul hqq] at hq
   have hn:bNot false=true:=by simp [ee]
   have hR:R=false:=by rw [hR];exact ul (by rw [g1,g2];simp [hqq])
   have fz:=And.intro hc (And.intro hat (And.intro hat2 hn))
   refine Cq ?_
   refine Cr ?_
   refine zP rfl (by conv=>lhs;cbv) rfl ?_
   refine tgC ?_
   refine oPT hq ?_
   refine tgA ?_
   refine zH ⟨rfl,?_,?_⟩
   · simp only [zK,zV,List.cons_append,List.nil_append,List.append_nil];and_intros<;>first | trivial | (intro hp;first | rfl | exact absurd (show false=true from hp) Bool.false_ne_true)
   refine Cq ?_
   refine Aq ?_
   refine zi ?_
   refine Aq ?_
   exact fBo (h:=hR.symm)
theorem enters_scope_walk : yz EE.P 99:=enters_of rfl (by decide) T99.2
end Go.Am
end
