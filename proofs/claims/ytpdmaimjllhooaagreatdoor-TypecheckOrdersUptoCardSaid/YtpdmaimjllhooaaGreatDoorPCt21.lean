/- Contracts of the program's functions. -/
import Derived.Test.YtpdmaimjllhooaaGreatDoorCards
import Derived.Test.YtpdmaimjllhooaaGreatDoorProg
import Derived.Test.YtpdmaimjllhooaaGreatDoorRows
import Derived.Test.YtpdmaimjllhooaaGreatDoorTie
import Derived.Test.YtpdmaimjllhooaaGreatDoorPCt19
import Derived.Test.YtpdmaimjllhooaaGreatDoorPCt20
import Derived.Test.YtpdmaimjllhooaaGreatDoorPCt15
section
set_option maxHeartbeats 16000000
set_option maxRecDepth 100000
namespace Go.Am
open Go.Proofs
theorem P_tcProgram (ts:List Sch) (qs:List Qy) (hts:x9 ts) (hqs:qs.length<1048577) (hq:∀ x∈qs,x.Ok) :
 PCall EL 36 [.agg [.isl 2 (mapE Sch.enc ts),.isl 18 (mapE Qy.enc qs)]] (.tup [int (uw ts qs).1,int (uw ts qs).2]):=by
 have p1:=(P_CheckAll ts (by have:=hts.len;omega) hts.sh).toL
 have hck:∀ x∈qs,PCall EL 24 [.isl 2 (mapE Sch.enc ts),x.enc] (int (y5 ts x)):=fun x hx=>xL ts x hts (hq x hx)
 have kts:=Sch.closedI ts
 have kqs:=Qy.closedI qs
 obtain ⟨RI,hRI⟩:∃ R,R=(uw ts qs).1:=⟨_,rfl⟩
 obtain ⟨RE,hRE⟩:∃ R,R=(uw ts qs).2:=⟨_,rfl⟩
 have hR:(RI,RE)=uw ts qs:=by rw [hRI,hRE]
 rw [← hRI,← hRE]
 rw [uw] at hR
 clear hRI hRE
 have hel:(mapE Qy.enc qs).length=qs.length:=zr ..
 generalize hes:mapE Qy.enc qs=es at *
 generalize mapE Sch.enc ts=ets at *
 obtain ⟨F,hF⟩:∃ F,F=uA ts:=⟨_,rfl⟩
 have hF0:∀ s i,F s i []=(0,0):=fun s i=>by rw [hF];rfl
 have hF1:∀ s i x r,F s i (x :: r)=if y5 ts x≠0 then (i,y5 ts x) else if x.nm∈s then (i,7) else F (s++[x.nm]) (i+1) r:=fun s i x r=>by rw [hF];rfl
 rw [← hF] at hR
 clear hF
 generalize zU ts=ca at *
 generalize y5 ts=C at *
 have kq2:AV.closedL [.isl 2 ets,.isl 18 es]=true:=by simp [AV.closedL,kts,kqs]
 clear hts hq
 refine zt ?_;unhygienic intros
 by_cases h1:ca=0
 rotate_left
 · have q1:iNe ca 0=true:=by simp only [ee];simpa using h1
   rw [if_pos h1] at hR
   injection hR with hR1 hR2
   rw [hR1,hR2]
   refine fB T36 [.t 2,.t 3] ?_
   refine Aq ?_
   refine oPA p1 ?_
   have fz:=q1
   refine Cq ?_
   refine Aq ?_
   exact fE [.gone]
 have q1:iNe ca 0=false:=by simp only [ee];simpa using h1
 rw [if_neg (by simpa using h1)] at hR
 by_cases h2:16<qs.length
 · have q2:iLt 16 (lenA es)=true:=by simp only [ee];simp;omega
   rw [if_pos h2] at hR
   injection hR with hR1 hR2
   rw [hR1,hR2]
   refine fB T36 [.t 2,.t 3] ?_
   refine Aq ?_
   refine oPA p1 ?_
   have fz:=And.intro q1 q2
   refine Cq ?_
   refine Cr ?_
   refine Aq ?_
   exact fE [.gone]
 have q2:iLt 16 (lenA es)=false:=by simp only [ee];simp;omega
 rw [if_neg h2] at hR
 refine fB T36 [.t 2,.t 3] ?_
 refine Aq ?_
 refine oPA p1 ?_
 have fz:=And.intro q1 q2
 refine Cq ?_
 refine Cr ?_
 refine Aq ?_
 refine za (ι:=List Qy × List Qy × Int × List (AV × AV)) (fun p=>([(23,int p.2.2.1),(22,int (lenA es)),(21,.isl 18 es),(5,.amap 1),(1,.ptr 0 0)],[.cells [.isl 2 ets,.isl 18 es],.amap p.2.2.2])) (fun p=>qs=p.1++p.2.1∧p.2.2.1=p.1.length∧p.2.2.2=ents (p.1.map Qy.nm)∧(RI,RE)=F (p.1.map Qy.nm) p.2.2.1 p.2.1) (fun p=>p.2.1.length) ([],qs,0,[]) ⟨rfl,rfl,rfl,hR⟩ ?_ ?_
 · have kcM:y3 []=true:=rfl
   exact (eS [.to 0,.to 1] [some 0,some 1])
 rintro ⟨d,r,i,m⟩ ⟨g1,gi,gm,gc⟩
 dsimp only at g1 gi gm gc ⊢
 have kcm:y3 m=true:=by rw [gm];exact uS _
 cases r with
 | nil =>
  have L1:=zw g1
  try simp only [List.length] at L1
  have hc:iLt i (lenA es)=false:=xg e_iLt e_lenA (by omega)
  rw [hF0] at gc
  injection gc with gc1 gc2
  rw [gc1,gc2]
  have fz:=hc
  refine Cq ?_
  refine Aq ?_
  refine zl ?_
  refine Aq ?_
  exact fE [.gone,.gone]
 | cons x r =>
  have L1:=zw g1
  try simp only [List.length] at L1
  have hc:iLt i (lenA es)=true:=xf e_iLt e_lenA (by omega)
  have hat:=z7 e_atA hes g1 gi
  have hi2:iAdd .i64 i 1=((d++[x]).length:Int):=by rw [List.length_append];exact yq e_iAdd gi (by omega)
  have hi3:i+1=iAdd .i64 i 1:=by rw [hi2,gi];simp
  have pk:=hck x (by rw [g1];simp)
  have hnm:d.map Qy.nm++[x.nm]=(d++[x]).map Qy.nm:=by simp
  rw [hF1,hi3,hnm] at gc
  have kok:mOk true m (str (ba x.nm))=true:=by simp only [ee];rw [gm];exact ut _ _
  have kget:mGet true m (str (ba x.nm)) (bool false)=bool (decide (x.nm∈d.map Qy.nm)):=by simp only [ee];rw [gm];exact uZ _ _
  have kput:x.nm∉d.map Qy.nm→mPut true m (str (ba x.nm)) (bool true)=ents ((d++[x]).map Qy.nm):=fun h=>by simp only [ee];rw [gm,uU _ _ h];simp
  obtain ⟨pO,pA,pT,pV,pS,pN,pCo,pCa,pCv,pCf,pCk,pXk,pXn,pXt,he,hpe,kpA,kpC⟩:=Qy.form x
  have kvs:=Vr.closedI x.vs
  have krs:=Ex.closedI x.rets
  have kks:=zq x.key
  rw [he] at hat pk
  clear hR hck he hpe hF0 hF1 hnm
  generalize C x=cx at *
  generalize hin:decide (x.nm∈d.map Qy.nm)=bi at *
  generalize mapE Vr.enc x.vs=evs at *
  generalize mapE Ex.enc x.rets=rs at *
  generalize mapE int x.key=key at *
  generalize ba x.nm=nm at *
  by_cases n1:cx=0
  rotate_left
  · have q3:iNe cx 0=true:=by simp only [ee];simpa using n1
    rw [if_pos n1] at gc
    injection gc with gc1 gc2
    rw [gc1,gc2]
    clear kput kget kok
    have fz:=And.intro hc (And.intro hat q3)
    refine Cq ?_
    refine Cr ?_
    refine oPA pk ?_
    refine Cq ?_
    refine Aq ?_
    refine zi ?_
    refine Aq ?_
    exact fE [.gone,.gone,.gone]
  have q3:iNe cx 0=false:=by simp only [ee];simpa using n1
  rw [if_neg (by simpa using n1)] at gc
  cases bi with
  | true =>
   rw [if_pos (of_decide_eq_true hin)] at gc
   injection gc with gc1 gc2
   rw [gc1,gc2]
   clear kput
   have fz:=And.intro hc (And.intro hat (And.intro q3 (And.intro kget kok)))
   refine Cq ?_
   refine Cr ?_
   refine oPA pk ?_
   refine Cq ?_
   refine Cr ?_
   refine Aq ?_
   refine zi ?_
   refine Aq ?_
   exact fE [.gone,.gone,.gone]
  | false =>
  rw [if_neg (of_decide_eq_false hin)] at gc
  have kp:=kput (of_decide_eq_false hin)
  clear kput
  have kcM:y3 (mPut true m (str nm) (bool true))=true:=by rw [kp];exact uS _
  have fz:=And.intro hc (And.intro hat (And.intro q3 (And.intro kget kok)))
  refine Cq ?_
  refine Cr ?_
  refine oPA pk ?_
  refine Cq ?_
  refine Cr ?_
  have fz:=kok
  refine goC 60 ?_
  refine zp (d++[x],r,iAdd .i64 i 1,mPut true m (str nm) (bool true)) ⟨by rw [g1];simp,hi2,kp,gc⟩ (by simp) (eS [.to 0,.to 1,.gone] [some 0,some 1])
def zS : Sch:=⟨[122,122,122],[]⟩
theorem more_ok {ts:List Sch} (h:x9 ts) (hl:ts.length<16):x9 (ts++[zS]) where
 len:=by rw [List.length_append];simp;omega
 sh:=fun q hq=>by
  rcases List.mem_append.1 hq with hq | hq
  · exact h.sh q hq
  rw [List.mem_singleton.1 hq];exact ⟨by simp [zS],by simp [zS],fun f hf=>by simp [zS] at hf⟩
 fs:=fun q hq=>by
  rcases List.mem_append.1 hq with hq | hq
  · exact h.fs q hq
  rw [List.mem_singleton.1 hq];simp [zS]
theorem more_enc (ts:List Sch):mapE Sch.enc (ts++[zS])=mapE Sch.enc ts++[.agg [str ⟨#[122,122,122]⟩,.isl 2 []]]:=by
 simp only [zn,List.map_append,List.map_cons,List.map_nil,zS,Sch.enc_eq,w7]
theorem more_wk (ets:List AV) (s:ByteArray):Wk2 0 (.isl 2 (ets++[.agg [str s,.val (.slice none 0 0)]])) (.isl 2 (ets++[.agg [str s,.isl 2 []]])):=by
 refine .isl 2 _ _ (by simp) (fun i e e' h1 h2=>?_) (fun i e e' j c c' h1 h2 h3 h4=>?_)
 all_goals
  by_cases hi:i<ets.length
  · rw [List.getElem?_append_left hi] at h1 h2
    rw [h1] at h2
    cases h2
    first | rfl | (rw [h3] at h4;cases h4;exact .wk _ _ (.refl _))
  rw [List.getElem?_append_right (by omega)] at h1 h2
  obtain ⟨m,hm⟩:∃ m,m=i - ets.length:=⟨_,rfl⟩
  rw [← hm] at h1 h2
  cases m with
  | zero =>
   simp at h1 h2
   subst h1 h2
   first
   | rfl
   | (match j,h3,h4 with
    | 0,h3,h4=>simp [AV.cells] at h3 h4;subst h3 h4;exact .wk _ _ (.refl _)
    | 1,h3,h4=>simp [AV.cells] at h3 h4;subst h3 h4;exact .wk _ _ (.nilI _)
    | j+2,h3,h4=>simp [AV.cells] at h3)
  | succ m=>simp at h1
theorem Qy.Ok.longer {x:Qy} (h:x.Ok) (hk:x.key.length<1048576):x.longer.Ok where
 vs:=h.vs
 vn:=h.vn
 key:=by
  show (if x.key=[] then [] else x.key++[-1]).length<_
  split
  · simp
  rw [List.length_append];simp;omega
 pat:=h.pat
 rets:=h.rets
 rl:=h.rl
 nm:=h.nm
theorem P_lawExtends (ts:List Sch) (x:Qy) (hts:x9 ts) (hx:x.Ok) (hkl:x.key.length<1048576) :
 PCall EL 7 [.isl 2 (mapE Sch.enc ts),x.enc] (bool true):=by
 have p0:=P_awake16
 have p1:=(P_few16 ts x hts hx).toL
 obtain ⟨zs,hzs⟩:∃ zs,zs=ts++[zS]:=⟨_,rfl⟩
 have hzk:ts.length<16→x9 zs:=fun h=>hzs ▸ more_ok hts h
 have wk:∀ (f:FuncId) (a:List AV) (v:AV),PCall EL f (.isl 2 (mapE Sch.enc zs) :: a) v→PCall EL f (.isl 2 (mapE Sch.enc ts++[.agg [str ⟨#[122,122,122]⟩,.val (.slice none 0 0)]]) :: a) v:=fun f a v h=>by
  rw [hzs,more_enc] at h
  exact h.weakA ⟨more_wk _ _,Wk2L.refl _⟩
 have p2:ts.length<16→_:=fun h=>wk _ [] _ (P_refCheckAll zs (by have:=(hzk h).len;omega) (hzk h).sh).toL
 have hcl:AV.closedL [.iptr [.isl 2 (mapE Sch.enc ts)]]=true:=by simp [AV.closedL,zh,Sch.closedI]
 have p3:=(P_ContainsFuncV 32 [.iptr [.isl 2 (mapE Sch.enc ts)]] hcl (fun t=>decide (t=ts.length)) x.vs hx.vs (fun v _=>P_Extends1 v ts)).toL
 have hno:((x.vs.map Vr.ty).any fun t=>decide (t=(ts.length:Int)))=false→∀ v∈x.vs,v.ty≠ts.length:=fun h v hv=>by
  rw [List.any_eq_false] at h
  have:=h v.ty (List.mem_map.2 ⟨v,hv,rfl⟩)
  simpa using this
 have p4:=xZ ts x.vs x.pat hx.pat hts hx.vs hx.vn
 have p5:=P_tcReturns ts x hts hx
 have p6:=xL ts x hts hx
 have q4:ts.length<16→zU zs=0→(∀ v∈x.vs,v.ty≠ts.length)→PCall EL 17 [.isl 2 (mapE Sch.enc ts++[.agg [str ⟨#[122,122,122]⟩,.val (.slice none 0 0)]]),.isl 2 (mapE Vr.enc x.vs),x.pat.enc] (.tup [int (tpI ts x.vs x.pat),int (tpE ts x.vs x.pat)]):=fun h1 h2 h3=>by
  have:=xZ zs x.vs x.pat hx.pat (hzk h1) hx.vs hx.vn
  rw [hzs] at h2
  obtain ⟨a,b⟩:=(alike_ext h2 h3).tp (dclE_ext h2 h3) x.pat
  rw [a,b,← hzs]
  exact wk _ _ _ this
 have q5:ts.length<16→zU zs=0→(∀ v∈x.vs,v.ty≠ts.length)→PCall EL 21 [.isl 2 (mapE Sch.enc ts++[.agg [str ⟨#[122,122,122]⟩,.val (.slice none 0 0)]]),x.enc] (.tup [.isl 1 (mapE int (vH ts x)),int (wQ ts x)]):=fun h1 h2 h3=>by
  have:=P_tcReturns zs x (hzk h1) hx
  rw [hzs] at h2
  obtain ⟨a,b⟩:=Alike.rts (x:=x) (x':=x) (alike_ext h2 h3) (dclE_ext h2 h3) rfl rfl
  rw [a,b,← hzs]
  exact wk _ _ _ this
 have q6:ts.length<16→zU zs=0→(∀ v∈x.vs,v.ty≠ts.length)→PCall EL 24 [.isl 2 (mapE Sch.enc ts++[.agg [str ⟨#[122,122,122]⟩,.val (.slice none 0 0)]]),x.longer.enc] (int (y5 ts x)):=fun h1 h2 h3=>by
  have:=xL zs x.longer (hzk h1) (hx.longer hkl)
  rw [hzs] at h2
  rw [← chkQ_ext h2 h3,← hzs]
  exact wk _ _ _ this
 have pE:=(P_Equal (vH ts x) (by
  have:=hx.rl
  unfold vH
  split
  · simp
  simpa using this)).toL
 have kts:=Sch.closedI ts
 have ktl:=Sch.closedL ts
 have kvs:=Vr.closedI x.vs
 have krs:=Ex.closedI x.rets
 have kks:=zq x.key
 have kkl:=zM x.key
 have kRK:=zq (vH ts x)
 obtain ⟨n,hn⟩:∃ n,n=ts.length:=⟨_,rfl⟩
 obtain ⟨m,hm⟩:∃ m,m=x.key.length:=⟨_,rfl⟩
 have hel:(mapE Sch.enc ts).length=ts.length:=zr ..
 have hkl2:(mapE int x.key).length=x.key.length:=zr ..
 have pc:OCall EL 29 [.isl 2 (mapE Sch.enc ts)] (.sl 0 2 0 n) [.arr 2 (mapE Sch.enc ts)]:=⟨(O_CloneS (mapE Sch.enc ts) n (by omega) (by have:=hts.len;omega) ktl (fit_S ts)).1,(O_CloneS (mapE Sch.enc ts) n (by omega) (by have:=hts.len;omega) ktl (fit_S ts)).2.toL⟩
 have pk:OCall EL 33 [.isl 1 (mapE int x.key)] (.sl 0 1 0 m) [.arr 1 (mapE int x.key)]:=⟨(O_CloneI (mapE int x.key) m (by omega) (by omega) kkl (fit_I x.key)).1,(O_CloneI (mapE int x.key) m (by omega) (by omega) kkl (fit_I x.key)).2.toL⟩
 obtain ⟨pO,pA,pT,pV,pS,pN,pCo,pCa,pCv,pCf,pCk,pXk,pXn,pXt,he,hpe,kpA,kpC⟩:=Qy.form x
 obtain ⟨key2,hk2⟩:∃ k,k=mapE int x.longer.key:=⟨_,rfl⟩
 have hk0:x.key=[]→key2=mapE int x.key:=fun h=>by rw [hk2,Qy.longer,h];rfl
 have hk1:x.key≠[]→mapE int x.key++[int (-1)]=key2:=fun h=>by rw [hk2,Qy.longer,if_neg h,zn,zn];simp
 have kk2:AV.closedL key2=true:=by rw [hk2];exact zM _
 have kk2i:(AV.isl 1 key2).closed=true:=by simpa [AV.closed] using kk2
 have hel2:x.longer.enc=.agg [str (ba x.nm),.isl 2 (mapE Vr.enc x.vs),.isl 1 key2,int pO,.isl 14 pA,int pT,int pV,int pS,int pN,int pCo,.isl 8 pCa,int pCv,int pCf,int pCk,int pXk,int pXn,str pXt,.isl 8 (mapE Ex.enc x.rets)]:=by
  rw [Qy.enc_eq]
  show AV.agg ([str (ba x.nm),.isl 2 (mapE Vr.enc x.vs),.isl 1 (mapE int x.longer.key)]++x.pat.enc.cells++[.isl 8 (mapE Ex.enc x.rets)])=_
  rw [hpe,← hk2];rfl
 have hkey:x.key=[]↔x.key.length=0:=by simp
 rw [hel2] at q6
 rw [hpe] at p4 q4
 rw [he] at p1 p5 p6 q5 ⊢
 clear he hpe hel2 hx wk hzk hzs hk2
 generalize (tq ts && x.few)=b1 at *
 generalize zU zs=ca at *
 generalize ((x.vs.map Vr.ty).any fun t=>decide (t=(ts.length:Int)))=b2 at *
 generalize tpI ts x.vs x.pat=ti at *
 generalize tpE ts x.vs x.pat=te at *
 generalize mapE int (vH ts x)=RK at *
 generalize wQ ts x=re at *
 generalize y5 ts x=ce at *
 have hkm:x.key.length=m:=hm.symm
 have htn:ts.length=n:=hn.symm
 generalize x.key=ky at *
 generalize mapE Sch.enc ts=ets at *
 generalize mapE Vr.enc x.vs=evs at *
 generalize mapE Ex.enc x.rets=es at *
 generalize mapE int ky=key at *
 generalize ba x.nm=nm at *
 obtain ⟨M0,hM0⟩:∃ M,M=ets++[.agg [str ⟨#[122,122,122]⟩,.val (.slice none 0 0)]]:=⟨_,rfl⟩
 have kM0l:AV.closedL M0=true:=by rw [hM0];exact closedL_append ktl rfl
 have kipt:(AV.iptr [.isl 2 ets]).closed=true:=by rw [zh];exact w8 kts
 have kM0:(AV.isl 2 M0).closed=true:=by simpa [AV.closed] using kM0l
 rw [← hM0] at p2 q4 q5 q6
 have hMl:M0.length=n+1:=by rw [hM0,List.length_append,hel,htn];rfl
 have htb:=hts.len
 clear hts
 refine zt ?_;unhygienic intros
 have n0:bNot false=true:=by simp only [ee];rfl
 have n1:bNot true=false:=by simp only [ee];rfl
 have z1:∀ x:Int,iNe x x=false:=fun x=>by simp only [ee];simp
 have z2:∀ x:Int,iEq x x=true:=fun x=>by simp only [ee];simp
 refine fB T7 [.t 4] ?_
 cases b1 with
 | false =>
  refine Aq ?_
  refine oPA p1 ?_
  have fz:=n0
  refine Cq ?_
  refine oC (fun c1=>?_) fun c1=>?_
  ·
   simp [ee] at c1
   refine Aq ?_
   refine oPA p0 ?_
   refine Aq ?_
   exact fV
  simp [ee] at c1
 | true =>
 by_cases h1:16≤ts.length
 · have k1:iLe 16 (lenA ets)=true:=by simp only [ee];simp;omega
   refine Aq ?_
   refine oPA p1 ?_
   have fz:=And.intro n1 k1
   refine Cq ?_
   refine oC (fun c1=>?_) fun c1=>?_
   ·
    simp [ee] at c1
    refine Aq ?_
    refine oPA p0 ?_
    refine Aq ?_
    exact fV
   simp [ee] at c1
 have k1:iLe 16 (lenA ets)=false:=by simp only [ee];simp;omega
 have p2:=p2 (by omega)
 refine Aq ?_
 refine oPA p1 ?_
 have fz:=And.intro n1 k1
 refine Cq ?_
 refine oC (fun c1=>?_) fun c1=>?_
 · simp [ee] at c1
 simp [ee] at c1
 refine Aq ?_
 refine vh (args:=[.isl 2 ets]) (v':=.sl 2 2 0 n) (H':=[.arr 2 ets]) rfl rfl rfl pc (w8 kts) rfl (tv ktl) ?_
 have hcat:catA (dropA ets 0) (partA [.agg [str ⟨#[122,122,122]⟩,.val (.slice none 0 0)]] 0 1)=M0:=by simp only [ee];rw [hM0];rfl
 have hlen:addN n (lenN (partA [.agg [str ⟨#[122,122,122]⟩,.val (.slice none 0 0)]] 0 1))=n+1:=by simp only [ee];rfl
 have hnb:n<1048577:=by omega
 have fz:=And.intro hcat hlen
 refine goC 60 ?_
 refine yD (F':=[(30,.isl 2 M0),(5,.isl 2 M0),(3,.ptr 0 0),(2,.iptr [.isl 2 ets])]) (H':=[.cells [str nm,.isl 2 evs,.isl 1 key,int pO,.isl 14 pA,int pT,int pV,int pS,int pN,int pCo,.isl 8 pCa,int pCv,int pCf,int pCk,int pXk,int pXn,str pXt,.isl 8 es]]) ?_ ?_
 · exact yj [.icells [.isl 2 ets],.to 0,.gone,.gone,.isl 2 M0] [some 1] ⟨⟨_,rfl,(zx _ (w8 kts)).symm⟩,⟨by simp,rfl⟩,trivial,trivial,⟨_,rfl,(zx _ kM0l).symm⟩,trivial⟩ ⟨zk (b:=1) rfl rfl rfl ⟨.refl _,.cl kvs,.cl kks,.refl _,.cl kpA,.refl _,.refl _,.refl _,.refl _,.refl _,.cl kpC,.refl _,.refl _,.refl _,.refl _,.refl _,.refl _,.cl krs,trivial⟩,trivial⟩ ⟨.of (yh rfl hMl.symm),.of (yh rfl hMl.symm),.refl _,.refl _,trivial⟩
 refine v6 (args:=[.isl 2 M0]) rfl rfl rfl p2 (w8 kM0) ?_
 by_cases h2:ca=0
 rotate_left
 · have k2:iNe ca 0=true:=by simp only [ee];simpa using h2
   have fz:=k2
   refine Cq ?_
   refine Aq ?_
   refine oPA p0 ?_
   refine Aq ?_
   exact fV
 have k2:iNe ca 0=false:=by simp only [ee];simpa using h2
 cases b2 with
 | true =>
  have fz:=k2
  refine Cq ?_
  refine Aq ?_
  refine oPG p3 ?_
  refine Aq ?_
  refine oPA p0 ?_
  refine Aq ?_
  exact fV
 | false =>
 have q4:=q4 (by omega) h2 (hno rfl)
 have q5:=q5 (by omega) h2 (hno rfl)
 have q6:=q6 (by omega) h2 (hno rfl)
 have fz:=And.intro n1 (And.intro k2 (And.intro z1 z2))
 refine Cq ?_
 refine Aq ?_
 refine oPG p3 ?_
 refine Aq ?_
 refine oPA p4 ?_
 refine Aq ?_
 refine oPA q4 ?_
 refine Aq ?_
 refine oPA p5 ?_
 refine Aq ?_
 refine oPA q5 ?_
 refine Cq ?_
 refine zj rfl rfl (fun c1=>?_) (fun c1=>?_)
 · simp [ee] at c1
 simp [ee] at c1
 refine Aq ?_
 refine oPG pE ?_
 refine Cq ?_
 refine oC (fun c2=>?_) fun c2=>?_
 · simp [ee] at c2
 simp [ee] at c2
 by_cases h3:m=0
 · have k3:iLt 0 (lenA key)=false:=by simp only [ee];exact decide_eq_false (by omega)
   have ek:key2=key:=hk0 (hkey.2 (by omega))
   rw [ek] at q6
   have fz:=And.intro k3 z2
   refine Cq ?_
   refine Aq ?_
   refine zP rfl (by conv=>lhs;cbv) rfl ?_
   refine tgA ?_
   refine oPT q6 ?_
   refine tgA ?_
   refine oPT p6 ?_
   refine tgA ?_
   refine tgC ?_
   refine zf rfl ?_
   refine oPT p0 ?_
   refine tgA ?_
   refine zH ⟨rfl,by simp [zK,zV],?_⟩
   refine Aq ?_
   exact fV
 have k3:iLt 0 (lenA key)=true:=by simp only [ee];simp;omega
 have ek:=hk1 (fun h=>h3 (by rw [← hkm];exact hkey.1 h))
 have hcat2:catA (dropA key 0) (partA [int (-1)] 0 1)=key2:=by simp only [ee];rw [← ek];rfl
 have hlen2:addN m (lenN (partA [int (-1)] 0 1))=m+1:=by simp only [ee];rfl
 have hmb:m<1048577:=by omega
 have hkl3:key2.length=m+1:=by rw [← ek,List.length_append,hkl2,hkm];rfl
 have fz:=k3
 refine Cq ?_
 refine Cr ?_
 refine Aq ?_
 refine vh (args:=[.isl 1 key]) (v':=.sl 2 1 0 m) (H':=[.arr 1 key]) rfl rfl rfl pk (w8 kks) rfl (tv kkl) ?_
 have fz:=And.intro hcat2 hlen2
 refine goC 60 ?_
 refine x6 (F':=[(14,.ptr 1 0),(5,.isl 2 M0),(3,.ptr 0 0),(2,.iptr [.isl 2 ets])]) (H':=[.cells [str nm,.isl 2 evs,.isl 1 key,int pO,.isl 14 pA,int pT,int pV,int pS,int pN,int pCo,.isl 8 pCa,int pCv,int pCf,int pCk,int pXk,int pXn,str pXt,.isl 8 es],.cells [str nm,.isl 2 evs,.isl 1 key2,int pO,.isl 14 pA,int pT,int pV,int pS,int pN,int pCo,.isl 8 pCa,int pCv,int pCf,int pCk,int pXk,int pXn,str pXt,.isl 8 es]]) ?_ ?_
 · exact yj [.to 0,.to 1,.gone,.gone,.isl 1 key2] [some 0,some 1] ⟨⟨by simp,rfl⟩,⟨by simp,rfl⟩,trivial,trivial,⟨_,rfl,(zx _ kk2).symm⟩,trivial⟩ ⟨zk (b:=0) rfl rfl rfl ⟨.refl _,.cl kvs,.cl kks,.refl _,.cl kpA,.refl _,.refl _,.refl _,.refl _,.refl _,.cl kpC,.refl _,.refl _,.refl _,.refl _,.refl _,.refl _,.cl krs,trivial⟩,zk (b:=1) rfl rfl rfl ⟨.refl _,.cl kvs,.of (yh rfl hkl3.symm),.refl _,.cl kpA,.refl _,.refl _,.refl _,.refl _,.refl _,.cl kpC,.refl _,.refl _,.refl _,.refl _,.refl _,.refl _,.cl krs,trivial⟩,trivial⟩ ⟨.refl _,.cl kM0,.refl _,.cl kipt,trivial⟩
 refine Aq ?_
 refine zP rfl (by conv=>lhs;cbv) rfl ?_
 refine tgA ?_
 refine oPT q6 ?_
 refine tgA ?_
 refine oPT p6 ?_
 refine tgA ?_
 have fz:=z2
 refine tgC ?_
 refine zf rfl ?_
 refine oPT p0 ?_
 refine tgA ?_
 refine zH ⟨rfl,by simp [zK,zV],?_⟩
 refine Aq ?_
 exact fV
def zN (j:Nat):Bs:=[122,UInt8.ofNat (97+j)]
def wK : Nat→List Vr→List Vr
 | _,[]=>[]
 | k,v :: r=>⟨zN k,v.ty⟩ :: wK (k+1) r
theorem renV_ty : ∀ (k:Nat) (vs:List Vr),(wK k vs).map Vr.ty=vs.map Vr.ty
 | _,[]=>rfl
 | k,v :: r=>by rw [wK,List.map_cons,List.map_cons,renV_ty (k+1) r]
theorem vA : ∀ (k:Nat) (vs:List Vr),(wK k vs).length=vs.length
 | _,[]=>rfl
 | k,v :: r=>by rw [wK,List.length_cons,List.length_cons,vA (k+1) r]
theorem renV_snoc : ∀ (k:Nat) (vs:List Vr) (v:Vr),wK k (vs++[v])=wK k vs++[⟨zN (k+vs.length),v.ty⟩]
 | k,[],v=>rfl
 | k,w :: r,v=>by
  rw [List.cons_append,wK,renV_snoc (k+1) r v,wK,List.cons_append,List.length_cons]
  rw [show k+1+r.length=k+(r.length+1) by omega]
theorem renV_mem : ∀ (k:Nat) (vs:List Vr) (v:Vr),v∈wK k vs→∃ j,k≤j∧j<k+vs.length∧v.nm=zN j
 | _,[],_,h=>by cases h
 | k,w :: r,v,h=>by
  rw [wK] at h
  rcases List.mem_cons.1 h with rfl | h
  · exact ⟨k,by omega,by simp,rfl⟩
  obtain ⟨j,a,b,c⟩:=renV_mem (k+1) r v h
  exact ⟨j,by omega,by rw [List.length_cons];omega,c⟩
theorem zN_inj {a b:Nat} (ha:a<16) (hb:b<16) (h:zN a=zN b):a=b:=by
 unfold zN at h
 injection h with _ h
 injection h with h _
 have:=congrArg UInt8.toNat h
 simp only [UInt8.toNat_ofNat'] at this
 omega
theorem renV_nodup : ∀ (k:Nat) (vs:List Vr),k+vs.length≤16→((wK k vs).map Vr.nm).Nodup
 | _,[],_=>by simp [wK]
 | k,v :: r,h=>by
  rw [List.length_cons] at h
  rw [wK,List.map_cons,List.nodup_cons]
  refine ⟨fun hm=>?_,renV_nodup (k+1) r (by omega)⟩
  obtain ⟨w,hw,e⟩:=List.mem_map.1 hm
  obtain ⟨j,a,b,c⟩:=renV_mem (k+1) r w hw
  have:=zN_inj (by omega) (by omega) (c.symm.trans e)
  omega
theorem zN_ok {j:Nat} (h:j<16):nmE (zN j)=0:=by
 have:j=0∨j=1∨j=2∨j=3∨j=4∨j=5∨j=6∨j=7∨j=8∨j=9∨j=10∨j=11∨j=12∨j=13∨j=14∨j=15:=by omega
 rcases this with rfl | rfl | rfl | rfl | rfl | rfl | rfl | rfl | rfl | rfl | rfl | rfl | rfl | rfl | rfl | rfl<;>decide
def otherN : Bs:=[111,116,104,101,114]
theorem otherN_ok : nmE otherN=0:=by decide
def Qy.other (x:Qy):Qy:=⟨otherN,wK 0 x.vs,x.key,x.pat,x.rets⟩
theorem Qy.Ok.other {x:Qy} (h:x.Ok) (_hl:x.vs.length≤16):x.other.Ok where
 vs:=by show (wK 0 x.vs).length<_;rw [vA];exact h.vs
 vn:=fun v hv=>by obtain ⟨j,_,_,e⟩:=renV_mem 0 x.vs v hv;rw [e];simp [zN]
 key:=h.key
 pat:=h.pat
 rets:=h.rets
 rl:=h.rl
 nm:=by show otherN.length<_;simp [otherN]
theorem chkQ_other {ts:List Sch} {x:Qy} (hl:x.vs.length≤16):y5 ts x=7∨y5 ts x=8∨y5 ts x=y5 ts x.other :=
 chkQ_names hl (renV_ty 0 x.vs) (fun v hv=>by obtain ⟨j,_,b,e⟩:=renV_mem 0 x.vs v hv;rw [e];exact zN_ok (by omega)) (renV_nodup 0 x.vs (by omega)) otherN_ok
theorem P_lawRenames (ts:List Sch) (x:Qy) (hts:x9 ts) (hx:x.Ok) :
 PCall EL 8 [.isl 2 (mapE Sch.enc ts),x.enc] (bool true):=by
 have p0:=P_awake16
 have p1:=(P_few16 ts x hts hx).toL
 have p2:=xL ts x hts hx
 have p3:x.vs.length≤16→PCall EL 24 [.isl 2 (mapE Sch.enc ts),x.other.enc] (int (y5 ts x.other)):=fun h=>xL ts x.other hts (hx.other h)
 have hor:=@chkQ_other ts x
 have kts:=Sch.closedI ts
 have kvs:=Vr.closedI x.vs
 have kvl:=Vr.closedL x.vs
 have krs:=Ex.closedI x.rets
 have kks:=zq x.key
 have kv2:=Vr.closedI (wK 0 x.vs)
 have kv2l:=Vr.closedL (wK 0 x.vs)
 obtain ⟨n,hn⟩:∃ n,n=x.vs.length:=⟨_,rfl⟩
 have hvl:(mapE Vr.enc x.vs).length=x.vs.length:=zr ..
 have pc:OCall EL 34 [.isl 2 (mapE Vr.enc x.vs)] (.sl 0 2 0 n) [.arr 2 (mapE Vr.enc x.vs)]:=⟨(O_CloneV (mapE Vr.enc x.vs) n (by omega) (by have:=hx.vs;omega) kvl (fit_V x.vs)).1,(O_CloneV (mapE Vr.enc x.vs) n (by omega) (by have:=hx.vs;omega) kvl (fit_V x.vs)).2.toL⟩
 obtain ⟨pO,pA,pT,pV,pS,pN,pCo,pCa,pCv,pCf,pCk,pXk,pXn,pXt,he,hpe,kpA,kpC⟩:=Qy.form x
 have heo:x.other.enc=.agg [str (ba otherN),.isl 2 (mapE Vr.enc (wK 0 x.vs)),.isl 1 (mapE int x.key),int pO,.isl 14 pA,int pT,int pV,int pS,int pN,int pCo,.isl 8 pCa,int pCv,int pCf,int pCk,int pXk,int pXn,str pXt,.isl 8 (mapE Ex.enc x.rets)]:=by
  rw [Qy.enc_eq]
  show AV.agg ([str (ba otherN),.isl 2 (mapE Vr.enc (wK 0 x.vs)),.isl 1 (mapE int x.key)]++x.pat.enc.cells++[.isl 8 (mapE Ex.enc x.rets)])=_
  rw [hpe];rfl
 have hbo:ba otherN=⟨#[111,116,104,101,114]⟩:=by rw [w7];rfl
 rw [hbo] at heo
 rw [heo] at p3
 rw [he] at p1 p2 ⊢
 clear he hpe heo hbo hts
 generalize (tq ts && x.few)=b1 at *
 generalize y5 ts x.other=f at *
 generalize y5 ts x=e at *
 have hxv:=hx.vs
 clear hx
 generalize mapE Sch.enc ts=ets at *
 generalize mapE Ex.enc x.rets=es at *
 generalize mapE int x.key=key at *
 generalize ba x.nm=nm at *
 generalize x.vs=vs at *
 generalize hv0:mapE Vr.enc vs=evs at *
 refine zt ?_;unhygienic intros
 have n0:bNot false=true:=by simp only [ee];rfl
 have n1:bNot true=false:=by simp only [ee];rfl
 refine fB T8 [.t 4] ?_
 cases b1 with
 | false =>
  refine Aq ?_
  refine oPA p1 ?_
  have fz:=n0
  refine Cq ?_
  refine oC (fun c1=>?_) fun c1=>?_
  ·
   simp [ee] at c1
   refine Aq ?_
   refine oPA p0 ?_
   refine Aq ?_
   exact fV
  simp [ee] at c1
 | true =>
 by_cases h1:16<vs.length
 · have k1:iLt 16 (lenA evs)=true:=by simp only [ee];simp;omega
   refine Aq ?_
   refine oPA p1 ?_
   have fz:=And.intro n1 k1
   refine Cq ?_
   refine oC (fun c1=>?_) fun c1=>?_
   ·
    simp [ee] at c1
    refine Aq ?_
    refine oPA p0 ?_
    refine Aq ?_
    exact fV
   simp [ee] at c1
 have k1:iLt 16 (lenA evs)=false:=by simp only [ee];simp;omega
 have p3:=p3 (by omega)
 have hor:=hor (by omega)
 refine Aq ?_
 refine oPA p1 ?_
 have fz:=And.intro n1 k1
 refine Cq ?_
 refine oC (fun c1=>?_) fun c1=>?_
 · simp [ee] at c1
 simp [ee] at c1
 refine Aq ?_
 refine vh (args:=[.isl 2 evs]) (v':=.sl 2 2 0 n) (H':=[.arr 2 evs]) rfl rfl rfl pc (w8 kvs) rfl (tv kvl) ?_
 refine Aq ?_
 refine za (ι:=List Vr × List Vr × Int × List AV) (fun p=>([(29,int p.2.2.1),(28,int (iOf n)),(5,.ptr 1 0),(3,.ptr 0 0),(0,.isl 2 ets)],[.cells [str nm,.isl 2 evs,.isl 1 key,int pO,.isl 14 pA,int pT,int pV,int pS,int pN,int pCo,.isl 8 pCa,int pCv,int pCf,int pCk,int pXk,int pXn,str pXt,.isl 8 es],.cells [str ⟨#[111,116,104,101,114]⟩,.sl 2 2 0 n,.isl 1 key,int pO,.isl 14 pA,int pT,int pV,int pS,int pN,int pCo,.isl 8 pCa,int pCv,int pCf,int pCk,int pXk,int pXn,str pXt,.isl 8 es],.arr 2 p.2.2.2])) (fun p=>vs=p.1++p.2.1∧p.2.2.1=p.1.length∧p.2.2.2=mapE Vr.enc (wK 0 p.1++p.2.1)) (fun p=>p.2.1.length) ([],vs,0,evs) ⟨rfl,rfl,hv0.symm⟩ ?_ ?_
 · exact (eS [.to 0,.to 1,.to 2] [some 0,some 1,some 2])
 rintro ⟨d,r,i,L⟩ ⟨g1,gi,gL⟩
 dsimp only at g1 gi gL ⊢
 have L1:=congrArg List.length g1
 have hLl:L.length=n:=by rw [gL,zr,List.length_append,vA,hn,g1,List.length_append]
 cases r with
 | nil =>
  have hc:iLt i (iOf n)=false:=by simp only [ee];simp;rw [hn,L1,gi];simp
  have eL:mapE Vr.enc (wK 0 vs)=L:=by rw [gL,g1,List.append_nil,List.append_nil]
  rw [eL] at kv2 kv2l p3
  clear eL gL
  have fz:=hc
  refine Cq ?_
  refine Aq ?_
  refine zl ?_
  refine Aq ?_
  refine x6 (F':=[(5,.ptr 1 0),(3,.ptr 0 0),(0,.isl 2 ets)]) (H':=[.cells [str nm,.isl 2 evs,.isl 1 key,int pO,.isl 14 pA,int pT,int pV,int pS,int pN,int pCo,.isl 8 pCa,int pCv,int pCf,int pCk,int pXk,int pXn,str pXt,.isl 8 es],.cells [str ⟨#[111,116,104,101,114]⟩,.isl 2 L,.isl 1 key,int pO,.isl 14 pA,int pT,int pV,int pS,int pN,int pCo,.isl 8 pCa,int pCv,int pCf,int pCk,int pXk,int pXn,str pXt,.isl 8 es]]) ?_ ?_
  · exact yj [.to 0,.to 1,.isl 2 L] [some 0,some 1] ⟨⟨by simp,rfl⟩,⟨by simp,rfl⟩,⟨_,rfl,(zx _ kv2l).symm⟩,trivial⟩ ⟨zk (b:=0) rfl rfl rfl ⟨.refl _,.cl kvs,.cl kks,.refl _,.cl kpA,.refl _,.refl _,.refl _,.refl _,.refl _,.cl kpC,.refl _,.refl _,.refl _,.refl _,.refl _,.refl _,.cl krs,trivial⟩,zk (b:=1) rfl rfl rfl ⟨.refl _,.of (yh rfl hLl.symm),.cl kks,.refl _,.cl kpA,.refl _,.refl _,.refl _,.refl _,.refl _,.cl kpC,.refl _,.refl _,.refl _,.refl _,.refl _,.refl _,.cl krs,trivial⟩,trivial⟩ ⟨.refl _,.refl _,.cl kts,trivial⟩
  by_cases e8:e=8
  · have q1:iEq e 8=true:=by simp only [ee];simpa using e8
    refine Aq ?_
    refine zP rfl (by conv=>lhs;cbv) rfl ?_
    refine tgA ?_
    refine oPT p2 ?_
    refine tgA ?_
    refine oPT p3 ?_
    refine tgA ?_
    refine zH ⟨rfl,by simp [zK,zV],?_⟩
    have fz:=q1
    refine Cq ?_
    refine oC (fun c1=>?_) fun c1=>?_
    ·
     simp [ee] at c1
     refine Aq ?_
     refine oPA p0 ?_
     refine Aq ?_
     exact fV
    simp [ee] at c1
  have q1:iEq e 8=false:=by simp only [ee];simpa using e8
  by_cases e7:e=7
  · have q2:iEq e 7=true:=by simp only [ee];simpa using e7
    refine Aq ?_
    refine zP rfl (by conv=>lhs;cbv) rfl ?_
    refine tgA ?_
    refine oPT p2 ?_
    refine tgA ?_
    refine oPT p3 ?_
    refine tgA ?_
    refine zH ⟨rfl,by simp [zK,zV],?_⟩
    have fz:=And.intro q1 q2
    refine Cq ?_
    refine oC (fun c1=>?_) fun c1=>?_
    ·
     simp [ee] at c1
     refine Aq ?_
     refine oPA p0 ?_
     refine Aq ?_
     exact fV
    simp [ee] at c1
  have q2:iEq e 7=false:=by simp only [ee];simpa using e7
  have q3:iEq e f=true:=by simp only [ee];simp;rcases hor with h | h | h;exact absurd h e7;exact absurd h e8;exact h
  refine Aq ?_
  refine zP rfl (by conv=>lhs;cbv) rfl ?_
  refine tgA ?_
  refine oPT p2 ?_
  refine tgA ?_
  refine oPT p3 ?_
  refine tgA ?_
  refine zH ⟨rfl,by simp [zK,zV],?_⟩
  have fz:=And.intro q1 (And.intro q2 q3)
  refine Cq ?_
  refine oC (fun c1=>?_) fun c1=>?_
  ·
   simp [ee] at c1
  simp [ee] at c1
  refine Cq ?_
  refine oPG p0 ?_
  refine Aq ?_
  exact fV
 | cons v r =>
  rw [List.length_append,List.length_cons] at L1
  have hc:iLt i (iOf n)=true:=by simp only [ee];simp;omega
  have hi2:iAdd .i64 i 1=((d++[v]).length:Int):=by rw [List.length_append];exact yq e_iAdd gi (by omega)
  obtain ⟨p,hp⟩:∃ p,p=d.length:=⟨_,rfl⟩
  have kxi:idxN 0 i=p:=by simp only [ee];rw [gi];simp [hp]
  have eL:L=mapE Vr.enc (wK 0 d)++(v.enc :: mapE Vr.enc r):=by rw [gL];simp [zn]
  have hp0:p=d.length:=hp
  have hb0:p=(mapE Vr.enc (wK 0 d)).length:=by rw [zr,vA,hp]
  have ha1:atN L p=.agg [str (ba v.nm),int v.ty]:=by rw [← Vr.enc_eq];simp only [ee];rw [eL,hb0];simp
  have hs1:setA L p (.agg [str (ba (zN p)),int v.ty])=mapE Vr.enc (wK 0 (d++[v])++r):=by
   simp only [ee]
   rw [eL,renV_snoc,hb0]
   simp only [zn,List.length_map,vA,List.map_append,List.map_cons,List.map_nil]
   rw [Nat.zero_add,← hp0,show p=(List.map Vr.enc (wK 0 d)).length by rw [List.length_map,vA,hp0]]
   simp [Vr.enc_eq]
  have hst:sCat ⟨#[122]⟩ (encR (iCvt .i32 (iAdd .i64 97 i)))=ba (zN p):=by
   have:p=0∨p=1∨p=2∨p=3∨p=4∨p=5∨p=6∨p=7∨p=8∨p=9∨p=10∨p=11∨p=12∨p=13∨p=14∨p=15:=by omega
   rw [← hp] at gi
   rw [gi,w7]
   simp only [ee]
   rcases this with rfl | rfl | rfl | rfl | rfl | rfl | rfl | rfl | rfl | rfl | rfl | rfl | rfl | rfl | rfl | rfl<;>rfl
  have hz:(encR (iCvt .i32 (iAdd .i64 97 i))).size=1:=by
   have:p=0∨p=1∨p=2∨p=3∨p=4∨p=5∨p=6∨p=7∨p=8∨p=9∨p=10∨p=11∨p=12∨p=13∨p=14∨p=15:=by omega
   rw [← hp] at gi
   rw [gi]
   simp only [ee]
   rcases this with rfl | rfl | rfl | rfl | rfl | rfl | rfl | rfl | rfl | rfl | rfl | rfl | rfl | rfl | rfl | rfl<;>rfl
  have hpl:p<L.length:=by omega
  have hib:i<iOf n:=by simp only [ee];omega
  have hi0:0≤i:=by omega
  generalize v.ty=ty at *
  generalize ba v.nm=vnm at *
  generalize ba (zN p)=zb at *
  clear eL
  have fz:=And.intro hc (And.intro kxi (And.intro ha1 hst))
  refine Cq ?_
  refine go rfl hX 1 (by conv=>lhs;cbv;try simp only [hc,kxi,ha1,hst];cbv;try simp only [hc,kxi,ha1,hst];cbv) ?_ ?_
  · simp only [Cd.ok]
    exact ⟨by rw [hz];decide,⟨hi0,hib⟩,by simp only [ee];omega,rfl⟩
  refine Aq ?_
  exact zp (d++[v],r,iAdd .i64 i 1,setA L p (.agg [str zb,int ty])) ⟨by rw [g1];simp,hi2,hs1⟩ (by simp) (xm ⟨.refl _,.refl _,.refl _,.refl _,.refl _,trivial⟩)
theorem P_lawOrders (ts:List Sch) (qs:List Qy) (hts:x9 ts) (hqs:qs.length≤1048576) (hq:∀ x∈qs,x.Ok) :
 PCall EL 10 [.agg [.isl 2 (mapE Sch.enc ts),.isl 18 (mapE Qy.enc qs)]] (bool true):=by
 have p0:=P_awake16
 have p1:=(P_Few14 ts qs hts (by omega) hq).toL
 have p2:=P_tcProgram ts qs hts (by omega) hq
 have p3:=P_tcProgram ts qs.reverse hts (by rw [List.length_reverse];omega) (fun x hx=>hq x (List.mem_reverse.1 hx))
 have hrev:=prgP_rev ts qs
 have hat:=prgP_at ts qs
 have hzero:=prgP_zero ts qs
 have hck:∀ x∈qs,y5 ts x=0→PCall EL 24 [.isl 2 (mapE Sch.enc ts),x.enc] (int 0):=fun x hx h=>by have:=xL ts x hts (hq x hx);rwa [h] at this
 have hcr:∀ x∈qs,y5 ts x=0→PCall EL 40 [x.pat.enc] (int 0):=fun x hx h=>by have:=(P_ref09_CheckRest x.pat (hq x hx).pat).toL;rwa [chkQ_rest h] at this
 have kts:=Sch.closedI ts
 have kqs:=Qy.closedI qs
 have kql:=Qy.closedL qs
 have kqr:=Qy.closedL qs.reverse
 have kqri:=Qy.closedI qs.reverse
 obtain ⟨n,hn⟩:∃ n,n=qs.length:=⟨_,rfl⟩
 have hel:(mapE Qy.enc qs).length=qs.length:=zr ..
 have pc:OCall EL 38 [.isl 18 (mapE Qy.enc qs)] (.sl 0 18 0 n) [.arr 18 (mapE Qy.enc qs)]:=⟨(O_CloneQ (mapE Qy.enc qs) n (by omega) (by omega) kql (fit_Q qs)).1,(O_CloneQ (mapE Qy.enc qs) n (by omega) (by omega) kql (fit_Q qs)).2.toL⟩
 have pr:=(C_Reverse qs n hn (by omega)).toL
 have hrl:(mapE Qy.enc qs.reverse).length=n:=by rw [zr,List.length_reverse,hn]
 generalize fewP ts qs=b1 at *
 generalize hev:mapE Qy.enc qs.reverse=rv at *
 generalize (uw ts qs.reverse).1=i4 at *
 generalize (uw ts qs.reverse).2=e4 at *
 generalize (uw ts qs).1=i3 at *
 generalize (uw ts qs).2=e3 at *
 generalize y5 ts=C at *
 generalize zU ts=ca at *
 generalize mapE Sch.enc ts=ets at *
 generalize hes:mapE Qy.enc qs=es at *
 clear hq hts hev
 have kq2:AV.closedL [.isl 2 ets,.isl 18 es]=true:=by simp [AV.closedL,kts,kqs]
 refine zt ?_;unhygienic intros
 have n0:bNot false=true:=by simp only [ee];rfl
 have n1:bNot true=false:=by simp only [ee];rfl
 refine fB T10 [.t 2] ?_
 cases b1 with
 | false =>
  refine Aq ?_
  refine oPA p1 ?_
  have fz:=n0
  refine Cq ?_
  refine Aq ?_
  refine oPA p0 ?_
  refine Aq ?_
  exact fV
 | true =>
 refine Aq ?_
 refine oPA p1 ?_
 have fz:=n1
 refine Cq ?_
 refine Aq ?_
 refine oPA p2 ?_
 refine Aq ?_
 refine trp_drawE [4,6,7] [[4,6,7],[6,4,7]] [(5,.ptr 1 0),(4,int e3),(3,int i3),(1,.ptr 0 0)] [.cells [.isl 2 ets,.isl 18 es],.cells [.isl 2 ets,.sl 2 18 0 n],.arr 18 es] rfl rfl rfl (by decide) rfl ?_ ⟨⟨[0,1,2,3,4,5,6,7],rfl,?_⟩,⟨[6,0,1,2,3,4,5,7],rfl,?_⟩,trivial⟩
 rotate_left
 · refine tgA ?_
   refine tr_ocall (v':=.sl 1 18 0 n) (H':=[.arr 18 es]) rfl rfl rfl pc (w8 kqs) rfl (tv kql) ?_
   refine tgA ?_
   refine zH ⟨by simp [xd],?_,?_⟩
   · simp only [uO,zV,List.cons_append,List.nil_append,List.append_nil];and_intros<;>first | trivial | (intro hp;first | rfl | exact absurd (show false=true from hp) Bool.false_ne_true)
   refine yj [.to 0,.to 2,.to 1] [some 0,some 2,some 1] ⟨⟨by simp,rfl⟩,⟨by simp,rfl⟩,⟨by simp,rfl⟩,trivial⟩
    ⟨zk (b:=0) rfl rfl rfl ⟨.cl kts,.cl kqs,trivial⟩,zk (b:=2) rfl rfl rfl ⟨.cl kts,.refl _,trivial⟩,wL (b:=1) rfl rfl rfl rfl kql,trivial⟩ ⟨.refl _,.refl _,.refl _,.refl _,trivial⟩
 · refine tgA ?_
   refine tr_ocall (v':=.sl 2 18 0 n) (H':=[.arr 18 es]) rfl rfl rfl pc (w8 kqs) rfl (tv kql) ?_
   refine tgA ?_
   refine zH ⟨by simp [xd],?_,?_⟩
   · simp only [uO,zV,List.cons_append,List.nil_append,List.append_nil];and_intros<;>first | trivial | (intro hp;first | rfl | exact absurd (show false=true from hp) Bool.false_ne_true)
   refine xm ⟨.refl _,.refl _,.refl _,.refl _,trivial⟩
 refine Aq ?_
 refine wi [2] rfl rfl enters_slices_Reverse___api_Query_api_Query_ pr (by decide) (by simp) (by show _=[AObj.arr 18 (AV.subL _ es)];rw [zx _ kql]) rfl ?_
 rintro v0 H' ⟨rfl,rfl⟩ -
 have hm:yR [.cells [.isl 2 ets,.isl 18 es],.cells [.isl 2 ets,.sl 2 18 0 n],.arr 18 es] [2] [.arr 18 rv]=[.cells [.isl 2 ets,.isl 18 es],.cells [.isl 2 ets,.sl 2 18 0 n],.arr 18 rv]:=by
  show [_,_,AObj.arr 18 (AV.subL _ rv)]=_
  rw [zx _ kqr];rfl
 rw [hm]
 refine Aq ?_
 refine yD (F':=[(29,.agg [.isl 2 ets,.isl 18 rv]),(4,int e3),(3,int i3),(1,.ptr 0 0)]) (H':=[.cells [.isl 2 ets,.isl 18 es]]) ?_ ?_
 · exact yj [.to 0,.gone,.isl 18 rv] [some 0] ⟨⟨by simp,rfl⟩,trivial,⟨_,rfl,(zx _ kqr).symm⟩,trivial⟩ ⟨zk (b:=0) rfl rfl rfl ⟨.cl kts,.cl kqs,trivial⟩,trivial⟩ ⟨.agg' ⟨.cl kts,.of (yh rfl hrl.symm),trivial⟩,.refl _,.refl _,.refl _,trivial⟩
 refine oPA p3 ?_
 have x1:bNe true true=false:=by simp only [ee];rfl
 have x2:bNe false false=false:=by simp only [ee];rfl
 by_cases h1:e3=0
 rotate_left
 · have q1:iEq e3 0=false:=by simp only [ee];simpa using h1
   have q2:iEq e4 0=false:=by simp only [ee];simp;exact fun h=>h1 (hrev.1 h)
   have q3:iNe e3 0=true:=by simp only [ee];simpa using h1
   have q4:iLe 0 i3=true:=by simp only [ee];simpa using hat.1
   by_cases h2:i3=0
   · have q5:iEq i3 0=true:=by simp only [ee];simpa using h2
     have fz:=And.intro x1 (And.intro x2 (And.intro q1 (And.intro q2 (And.intro q3 (And.intro q4 q5)))))
     refine Cq ?_
     refine Cr ?_
     refine Cr ?_
     refine Cr ?_
     refine Cr ?_
     refine Cr ?_
     refine Cr ?_
     refine Cr ?_
     refine Cr ?_
     refine Cr ?_
     refine Cr ?_
     refine zj rfl rfl (fun c1=>?_) (fun c1=>?_)
     ·
      simp [ee] at c1
      refine oPG p0 ?_
      refine Aq ?_
      exact fV
     simp [ee] at c1
   have q5:iEq i3 0=false:=by simp only [ee];simpa using h2
   have q6:iLt i3 (lenA es)=true:=by simp only [ee];simp;have:=hat.2.2;omega
   have fz:=And.intro x1 (And.intro x2 (And.intro q1 (And.intro q2 (And.intro q3 (And.intro q4 (And.intro q5 q6))))))
   refine Cq ?_
   refine Cr ?_
   refine Cr ?_
   refine Cr ?_
   refine Cr ?_
   refine Cr ?_
   refine Cr ?_
   refine Cr ?_
   refine Cr ?_
   refine Cr ?_
   refine Cr ?_
   refine zj rfl rfl (fun c1=>?_) (fun c1=>?_)
   ·
    simp [ee] at c1
    refine oPG p0 ?_
    refine Aq ?_
    exact fV
   simp [ee] at c1
 have q1:iEq e3 0=true:=by simp only [ee];simpa using h1
 have q2:iEq e4 0=true:=by simp only [ee];simp;exact hrev.2 h1
 have q3:iNe e3 0=false:=by simp only [ee];simpa using h1
 have hi0:=hat.2.1 h1
 obtain ⟨_,_,hall,_⟩:=hzero.1 h1
 subst hi0
 clear hzero hat hrev p1 p2 p3 pc pr hm
 have q4:iEq 0 0=true:=by simp only [ee];rfl
 have q5:iNe 0 0=false:=by simp only [ee];rfl
 have fz:=And.intro x1 (And.intro q1 (And.intro q2 q3))
 refine Cq ?_
 have fz:=q3
 refine Cr ?_
 refine Cr ?_
 refine Aq ?_
 refine za (ι:=List Qy × List Qy × Int) (fun p=>([(59,int p.2.2),(58,int (lenA es)),(57,.isl 18 es),(3,int 0),(1,.ptr 0 0)],[.cells [.isl 2 ets,.isl 18 es]])) (fun p=>qs=p.1++p.2.1∧p.2.2=p.1.length) (fun p=>p.2.1.length) ([],qs,0) ⟨rfl,rfl⟩ ?_ ?_
 · exact (eS [.to 0] [some 0])
 rintro ⟨d,r,i⟩ ⟨g1,gi⟩
 dsimp only at g1 gi ⊢
 cases r with
 | nil =>
  have L1:=zw g1
  try simp only [List.length] at L1
  have hc:iLt i (lenA es)=false:=xg e_iLt e_lenA (by omega)
  have fz:=And.intro hc q4
  refine Cq ?_
  refine Aq ?_
  refine zl ?_
  refine Cq ?_
  refine oPG p0 ?_
  refine Aq ?_
  exact fV
 | cons x r =>
  have L1:=zw g1
  try simp only [List.length] at L1
  have hc:iLt i (lenA es)=true:=xf e_iLt e_lenA (by omega)
  have hatx:=z7 e_atA hes g1 gi
  have hi2:iAdd .i64 i 1=((d++[x]).length:Int):=by rw [List.length_append];exact yq e_iAdd gi (by omega)
  have hx:x∈qs:=by rw [g1];simp
  have pk:=hck x hx (hall x hx)
  have pl:=hcr x hx (hall x hx)
  obtain ⟨pO,pA,pT,pV,pS,pN,pCo,pCa,pCv,pCf,pCk,pXk,pXn,pXt,he,hpe,kpA,kpC⟩:=Qy.form x
  have kvs:=Vr.closedI x.vs
  have krs:=Ex.closedI x.rets
  have kks:=zq x.key
  rw [he] at hatx pk
  rw [hpe] at pl
  clear hck hcr hall he hpe
  generalize mapE Vr.enc x.vs=evs at *
  generalize mapE Ex.enc x.rets=rs at *
  generalize mapE int x.key=key at *
  generalize ba x.nm=nm at *
  have fz:=And.intro hc (And.intro hatx q5)
  refine Cq ?_
  refine Cr ?_
  refine oPA pk ?_
  refine Cq ?_
  refine Aq ?_
  refine oPG pl ?_
  refine Cq ?_
  refine oC (fun c1=>?_) fun c1=>?_
  ·
   simp [ee] at c1
  simp [ee] at c1
  refine Aq ?_
  refine zp (d++[x],r,iAdd .i64 i 1) ⟨by rw [g1];simp,hi2⟩ (by simp) (eS [.to 0,.gone] [some 0])
end Go.Am
end
