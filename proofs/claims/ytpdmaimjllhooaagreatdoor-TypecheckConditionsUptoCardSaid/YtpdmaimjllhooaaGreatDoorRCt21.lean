import Derived.Test.YtpdmaimjllhooaaGreatDoorRCt19
import Derived.Test.YtpdmaimjllhooaaGreatDoorRCt20
section
set_option maxHeartbeats 16000000
set_option maxRecDepth 100000
namespace Go.Am
open Go.Proofs
theorem P_tcReturns (ts:List Sch) (x:Qy) (hts:xW ts) (hx:x.Ok) :
 PCall EL 21 [.isl 2 (mapE Sch.enc ts),x.enc] (.tup [.isl 1 (mapE int (w8 ts x)),int (wC ts x)]):=by
 obtain ⟨cs,he⟩:∃ cs,x.enc=.agg cs:=⟨_,Qy.enc_eq x⟩
 have kq:AV.closedL cs=true:=by have:=Qy.closed x;rw [he] at this;exact this
 have kone:cs.all AV.one=true:=Qy.one he
 have kts:=Sch.closedI ts
 have kt:AV.closedL [.isl 2 (mapE Sch.enc ts)]=true:=by simp [AV.closedL,kts]
 have ka:AV.closedL [.iptr [.isl 2 (mapE Sch.enc ts)],.iptr cs]=true:=by simp [AV.closedL,zd,kts,kq]
 have kd:AV.closedL [.iptr cs]=true:=by simp [AV.closedL,zd,kq]
 have kb:AV.closedL [.iptr [.fn 67 [.iptr cs]]]=true:=by simp [AV.closedL,zA,zd,kq]
 have ku:(AV.val (.slice none 0 0)).closed=true:=rfl
 have w2:=xG 67 _ kd
 have w3:=C_wholeA 68 _ _ _ kq kt ku
 have c1:=P_Returns1 ts x he hts hx
 have c2:=xw kd (P_Returns2 x he)
 have c3:=C_whole1A kq kt ku enters_typecheck_Returns_3 (C_Returns3 ts x he hts hx) (fun w h=>h.2)
 have c4:=P_Returns4 x he hx
 obtain ⟨E,hE⟩:∃ E,E=wC ts x:=⟨_,rfl⟩
 have cf:=C_first4 ⟨66,_,_,_⟩ ⟨98,_,0,_⟩ ⟨69,_,_,_⟩ kq kt ku enters_typecheck_whole_1 ka kb kd c1 (fun _=>c2) c3 c4 (E:=E) hE
 have hK:E=0→mapE int (x.rets.map (rkK ts x.vs))=mapE int (w8 ts x):=fun h=>by rw [w8,← hE,if_neg (by simpa using h)]
 have hK2:E≠0→mapE int (w8 ts x)=[]:=fun h=>by rw [w8,← hE,if_pos h,zk];rfl
 rw [← hE,he]
 dsimp only at cf
 generalize mapE int (w8 ts x)=RK at *
 generalize mapE int (x.rets.map (rkK ts x.vs))=ks at *
 clear c1 c2 c3 c4 hE he hx hts
 generalize mapE Sch.enc ts=ets at *
 have f1:(AV.fn 66 [.iptr [.isl 2 ets],.iptr cs]).closed=true:=by rw [zA];exact ka
 refine zr ?_;unhygienic intros
 refine fB T21 [.t 4,.t 5] ?_
 refine go rfl hX 0 (by conv=>lhs;cbv) ?_ ?_
 · simp only [Cd.ok];(first | exact trivial | exact kone | (and_intros<;>first | rfl | exact kone))
 refine xu (F':=[(12,.fn 67 [.iptr cs]),(11,.agg [.fn 66 [.iptr [.isl 2 ets],.iptr cs]]),(6,.ptr 0 0),(3,.iptr cs),(2,.iptr [.isl 2 ets])]) (H':=[.cells [.val (.slice none 0 0)]]) ?_ ?_
 · exact (zF [.icells ([.isl 2 ets]),.icells (cs),.to 0] [some 2] ⟨⟨_,rfl,(zp _ kt).symm⟩,⟨_,rfl,(zp _ kq).symm⟩,⟨by simp,rfl⟩,trivial⟩ ⟨ze (b:=2) rfl rfl rfl ⟨.refl _,trivial⟩,trivial⟩ ⟨.refl _,.refl _,.refl _,.refl _,.refl _,trivial⟩)
 have kfq:(AV.fn 67 [.iptr cs]).closed=true:=by rw [zA];exact kd
 have kdq:(AV.fn 69 [.iptr cs]).closed=true:=by rw [zA];exact kd
 have kbq:(AV.fn 98 [.iptr [.fn 67 [.iptr cs]]]).closed=true:=by rw [zA];exact kb
 have kqp:(AV.iptr cs).closed=true:=by rw [zd];exact kq
 have ktp:(AV.iptr [.isl 2 ets]).closed=true:=by rw [zd];exact kt
 have s1:∀ σ,AV.sub σ (.iptr cs)=.iptr cs:=fun σ=>zX _ _ _ (Nat.le_refl _) kqp
 have s2:∀ σ,AV.sub σ (.iptr [.isl 2 ets])=.iptr [.isl 2 ets]:=fun σ=>zX _ _ _ (Nat.le_refl _) ktp
 have sA:∀ σ,AV.sub σ (.fn 66 [.iptr [.isl 2 ets],.iptr cs])=.fn 66 [.iptr [.isl 2 ets],.iptr cs]:=fun σ=>zX _ _ _ (Nat.le_refl _) f1
 have sB:∀ σ,AV.sub σ (.fn 98 [.iptr [.fn 67 [.iptr cs]]])=.fn 98 [.iptr [.fn 67 [.iptr cs]]]:=fun σ=>zX _ _ _ (Nat.le_refl _) kbq
 have sD:∀ σ,AV.sub σ (.fn 69 [.iptr cs])=.fn 69 [.iptr cs]:=fun σ=>zX _ _ _ (Nat.le_refl _) kdq
 have oF:∀ σ,AObj.sub σ (.cells [.fn 68 [.iptr cs,.iptr [.isl 2 ets],.ptr 0 0]])=.cells [.fn 68 [.iptr cs,.iptr [.isl 2 ets],AV.sub σ (.ptr 0 0)]]:=fun σ=>by show AObj.cells [.fn _ [AV.sub _ (.iptr cs),AV.sub _ (.iptr [.isl 2 ets]),_]]=_;rw [s1,s2]
 have oA:∀ σ,AObj.sub σ (.arr 1 [.agg [.fn 66 [.iptr [.isl 2 ets],.iptr cs]],.agg [.fn 98 [.iptr [.fn 67 [.iptr cs]]]],.agg [.fn 98 [.ptr 1 0]],.agg [.fn 69 [.iptr cs]]])=.arr 1 [.agg [.fn 66 [.iptr [.isl 2 ets],.iptr cs]],.agg [.fn 98 [.iptr [.fn 67 [.iptr cs]]]],.agg [.fn 98 [AV.sub σ (.ptr 1 0)]],.agg [.fn 69 [.iptr cs]]]:=fun σ=>by show AObj.arr 1 [AV.agg [AV.sub _ (.fn 66 [.iptr [.isl 2 ets],.iptr cs])],AV.agg [AV.sub _ (.fn 98 [.iptr [.fn 67 [.iptr cs]]])],_,AV.agg [AV.sub _ (.fn 69 [.iptr cs])]]=_;rw [sA,sB,sD];rfl
 refine on_pcall (args:=[.fn 67 [.iptr cs]]) rfl rfl rfl w2 (by rw [AV.closedL,kfq];rfl) ?_
 refine Aq ?_
 refine wO [0] rfl rfl enters_typecheck_whole w3 (by decide) (by simp) rfl (by show _=[AV.fn _ [AV.sub _ (.iptr cs),AV.sub _ (.iptr [.isl 2 ets]),_]];rw [s1,s2];rfl) ?_
 rintro v0 H' ⟨rfl,rfl⟩ -
 have hm:yX [.cells [.val (.slice none 0 0)]] [0] [.cells [.val (.slice none 0 0)],.cells [.fn 68 [.iptr cs,.iptr [.isl 2 ets],.ptr 0 0]],.cells [.fn 98 [.ptr 1 0]]]=[.cells [.val (.slice none 0 0)],.cells [.fn 68 [.iptr cs,.iptr [.isl 2 ets],.ptr 0 0]],.cells [.fn 98 [.ptr 1 0]]]:=by
  show [_,AObj.sub _ (.cells [.fn 68 [.iptr cs,.iptr [.isl 2 ets],.ptr 0 0]]),_]=_
  rw [oF];rfl
 rw [hm]
 refine Aq ?_
 refine wO [0,1,3] rfl rfl enters_typecheck_first cf (by decide) (by simp) (by show _=[_,AObj.sub _ (.cells [.fn 68 [.iptr cs,.iptr [.isl 2 ets],.ptr 0 0]]),AObj.sub _ (.arr 1 [.agg [.fn 66 [.iptr [.isl 2 ets],.iptr cs]],.agg [.fn 98 [.iptr [.fn 67 [.iptr cs]]]],.agg [.fn 98 [.ptr 1 0]],.agg [.fn 69 [.iptr cs]]])];rw [oF,oA];rfl) rfl ?_
 rintro v0 H' ⟨⟨I,rfl⟩,w,rfl,hw,hwc⟩ -
 have sw:∀ σ,AV.sub σ w=w:=fun σ=>zX _ _ _ (Nat.le_refl _) hwc
 have hm2:yX [.cells [.val (.slice none 0 0)],.cells [.fn 68 [.iptr cs,.iptr [.isl 2 ets],.ptr 0 0]],.cells [.fn 98 [.ptr 1 0]],.arr 1 [.agg [.fn 66 [.iptr [.isl 2 ets],.iptr cs]],.agg [.fn 98 [.iptr [.fn 67 [.iptr cs]]]],.agg [.fn 98 [.ptr 1 0]],.agg [.fn 69 [.iptr cs]]]] [0,1,3] [.cells [w],.cells [.fn 68 [.iptr cs,.iptr [.isl 2 ets],.ptr 0 0]],.arr 1 [.agg [.fn 66 [.iptr [.isl 2 ets],.iptr cs]],.agg [.fn 98 [.iptr [.fn 67 [.iptr cs]]]],.agg [.fn 98 [.ptr 1 0]],.agg [.fn 69 [.iptr cs]]]]=[.cells [w],.cells [.fn 68 [.iptr cs,.iptr [.isl 2 ets],.ptr 0 0]],.cells [.fn 98 [.ptr 1 0]],.arr 1 [.agg [.fn 66 [.iptr [.isl 2 ets],.iptr cs]],.agg [.fn 98 [.iptr [.fn 67 [.iptr cs]]]],.agg [.fn 98 [.ptr 1 0]],.agg [.fn 69 [.iptr cs]]]]:=by
  show [AObj.cells [AV.sub _ w],AObj.sub _ (.cells [.fn 68 [.iptr cs,.iptr [.isl 2 ets],.ptr 0 0]]),_,AObj.sub _ (.arr 1 [.agg [.fn 66 [.iptr [.isl 2 ets],.iptr cs]],.agg [.fn 98 [.iptr [.fn 67 [.iptr cs]]]],.agg [.fn 98 [.ptr 1 0]],.agg [.fn 69 [.iptr cs]]])]=_
  rw [sw,oF,oA];rfl
 rw [hm2]
 by_cases n1:E=0
 · have q1:iNe E 0=false:=by simp only [ee];simpa using n1
   have kRK:(AV.isl 1 RK).closed=true:=by rw [hw n1,hK n1] at hwc;exact hwc
   rw [hw n1,hK n1]
   clear cf hK hK2 hw
   subst n1
   have fz:=q1
   refine Cq ?_
   refine Aq ?_
   exact fE [.gone,.gone,.gone,.gone]
 have q1:iNe E 0=true:=by simp only [ee];simpa using n1
 rw [hK2 n1]
 have fz:=q1
 refine Cq ?_
 refine Aq ?_
 exact fE [.gone,.gone,.gone,.gone]
theorem P_Check1 (ts:List Sch) (x:Qy) {cs:List AV} (hp:x.enc=.agg cs) (hts:xW ts) (_hx:x.Ok):PCall EL 72 [.iptr [.isl 2 (mapE Sch.enc ts)]] (int (z7 ts)):=by
 have p1:=(P_CheckAll ts (by have:=hts.len;omega) hts.sh).toL
 have kts:=Sch.closedI ts
 have kvs:=Vr.closedI x.vs
 have krs:=Ex.closedI x.rets
 have kks:=zx x.key
 obtain ⟨pO,pA,pT,pV,pS,pN,pCo,pCa,pCv,pCf,pCk,pXk,pXn,pXt,he,hpe,kpA,kpC⟩:=Qy.form x
 rw [he] at hp
 try rw [he] at p1
 try rw [hpe] at p1
 injection hp with hp
 subst hp
 generalize tpI ts x.vs x.pat=R1 at *
 generalize tpE ts x.vs x.pat=R2 at *
 generalize z7 ts=R3 at *
 generalize nmE x.nm=R4 at *
 generalize tkE ts x=R5 at *
 generalize wC ts x=R6 at *
 generalize mapE int (w8 ts x)=R7 at *
 generalize mapE Sch.enc ts=ets at *
 generalize mapE Vr.enc x.vs=evs at *
 generalize mapE Ex.enc x.rets=rs at *
 generalize mapE int x.key=es at *
 generalize ba x.nm=nm at *
 clear he hpe
 refine zr ?_;unhygienic intros
 refine fB T72 [.t 1] ?_
 refine Aq ?_
 refine oPA p1 ?_
 refine Aq ?_
 exact fV
theorem P_Check2 (ts:List Sch) (x:Qy) {cs:List AV} (hp:x.enc=.agg cs) (_hts:xW ts) (hx:x.Ok):PCall EL 74 [.iptr cs] (int (nmE x.nm)):=by
 have p1:=P_lxName x.nm hx.nm
 have kts:=Sch.closedI ts
 have kvs:=Vr.closedI x.vs
 have krs:=Ex.closedI x.rets
 have kks:=zx x.key
 obtain ⟨pO,pA,pT,pV,pS,pN,pCo,pCa,pCv,pCf,pCk,pXk,pXn,pXt,he,hpe,kpA,kpC⟩:=Qy.form x
 rw [he] at hp
 try rw [he] at p1
 try rw [hpe] at p1
 injection hp with hp
 subst hp
 generalize tpI ts x.vs x.pat=R1 at *
 generalize tpE ts x.vs x.pat=R2 at *
 generalize z7 ts=R3 at *
 generalize nmE x.nm=R4 at *
 generalize tkE ts x=R5 at *
 generalize wC ts x=R6 at *
 generalize mapE int (w8 ts x)=R7 at *
 generalize mapE Sch.enc ts=ets at *
 generalize mapE Vr.enc x.vs=evs at *
 generalize mapE Ex.enc x.rets=rs at *
 generalize mapE int x.key=es at *
 generalize ba x.nm=nm at *
 clear he hpe
 refine zr ?_;unhygienic intros
 refine fB T74 [.t 1] ?_
 refine Aq ?_
 refine oPA p1 ?_
 refine Aq ?_
 exact fV
theorem P_Check3 (ts:List Sch) (x:Qy) {cs:List AV} (hp:x.enc=.agg cs) (hts:xW ts) (hx:x.Ok):PCall EL 76 [.iptr [.isl 2 (mapE Sch.enc ts)],.iptr cs] (.tup [int (tpI ts x.vs x.pat),int (tpE ts x.vs x.pat)]):=by
 have p1:=P_tcPattern ts x.vs x.pat hx.pat hts hx.vs hx.vn
 have kts:=Sch.closedI ts
 have kvs:=Vr.closedI x.vs
 have krs:=Ex.closedI x.rets
 have kks:=zx x.key
 obtain ⟨pO,pA,pT,pV,pS,pN,pCo,pCa,pCv,pCf,pCk,pXk,pXn,pXt,he,hpe,kpA,kpC⟩:=Qy.form x
 rw [he] at hp
 try rw [he] at p1
 try rw [hpe] at p1
 injection hp with hp
 subst hp
 generalize tpI ts x.vs x.pat=R1 at *
 generalize tpE ts x.vs x.pat=R2 at *
 generalize z7 ts=R3 at *
 generalize nmE x.nm=R4 at *
 generalize tkE ts x=R5 at *
 generalize wC ts x=R6 at *
 generalize mapE int (w8 ts x)=R7 at *
 generalize mapE Sch.enc ts=ets at *
 generalize mapE Vr.enc x.vs=evs at *
 generalize mapE Ex.enc x.rets=rs at *
 generalize mapE int x.key=es at *
 generalize ba x.nm=nm at *
 clear he hpe
 refine zr ?_;unhygienic intros
 refine fB T76 [.t 2,.t 3] ?_
 refine Aq ?_
 refine oPA p1 ?_
 refine Aq ?_
 exact fE []
theorem P_Check4 (ts:List Sch) (x:Qy) {cs:List AV} (hp:x.enc=.agg cs) (hts:xW ts) (hx:x.Ok):PCall EL 77 [.iptr [.isl 2 (mapE Sch.enc ts)],.iptr cs] (int (tkE ts x)):=by
 have p1:=P_Key ts x hts hx.vs hx.vn hx.key
 have kts:=Sch.closedI ts
 have kvs:=Vr.closedI x.vs
 have krs:=Ex.closedI x.rets
 have kks:=zx x.key
 obtain ⟨pO,pA,pT,pV,pS,pN,pCo,pCa,pCv,pCf,pCk,pXk,pXn,pXt,he,hpe,kpA,kpC⟩:=Qy.form x
 rw [he] at hp
 try rw [he] at p1
 try rw [hpe] at p1
 injection hp with hp
 subst hp
 generalize tpI ts x.vs x.pat=R1 at *
 generalize tpE ts x.vs x.pat=R2 at *
 generalize z7 ts=R3 at *
 generalize nmE x.nm=R4 at *
 generalize tkE ts x=R5 at *
 generalize wC ts x=R6 at *
 generalize mapE int (w8 ts x)=R7 at *
 generalize mapE Sch.enc ts=ets at *
 generalize mapE Vr.enc x.vs=evs at *
 generalize mapE Ex.enc x.rets=rs at *
 generalize mapE int x.key=es at *
 generalize ba x.nm=nm at *
 clear he hpe
 refine zr ?_;unhygienic intros
 refine fB T77 [.t 2] ?_
 refine Aq ?_
 refine oPA p1 ?_
 refine Aq ?_
 exact fV
theorem P_Check5 (ts:List Sch) (x:Qy) {cs:List AV} (hp:x.enc=.agg cs) (hts:xW ts) (hx:x.Ok):PCall EL 78 [.iptr [.isl 2 (mapE Sch.enc ts)],.iptr cs] (int (wC ts x)):=by
 have p1:=P_tcReturns ts x hts hx
 have kts:=Sch.closedI ts
 have kvs:=Vr.closedI x.vs
 have krs:=Ex.closedI x.rets
 have kks:=zx x.key
 obtain ⟨pO,pA,pT,pV,pS,pN,pCo,pCa,pCv,pCf,pCk,pXk,pXn,pXt,he,hpe,kpA,kpC⟩:=Qy.form x
 rw [he] at hp
 try rw [he] at p1
 try rw [hpe] at p1
 injection hp with hp
 subst hp
 generalize tpI ts x.vs x.pat=R1 at *
 generalize tpE ts x.vs x.pat=R2 at *
 generalize z7 ts=R3 at *
 generalize nmE x.nm=R4 at *
 generalize tkE ts x=R5 at *
 generalize wC ts x=R6 at *
 generalize mapE int (w8 ts x)=R7 at *
 generalize mapE Sch.enc ts=ets at *
 generalize mapE Vr.enc x.vs=evs at *
 generalize mapE Ex.enc x.rets=rs at *
 generalize mapE int x.key=es at *
 generalize ba x.nm=nm at *
 clear he hpe
 refine zr ?_;unhygienic intros
 refine fB T78 [.t 2] ?_
 refine Aq ?_
 refine oPA p1 ?_
 refine Aq ?_
 exact fV
theorem w9 (ts:List Sch) (x:Qy) (hts:xW ts) (hx:x.Ok):PCall EL 24 [.isl 2 (mapE Sch.enc ts),x.enc] (int (w7 ts x)):=by
 obtain ⟨cs,he⟩:∃ cs,x.enc=.agg cs:=⟨_,Qy.enc_eq x⟩
 have kq:AV.closedL cs=true:=by have:=Qy.closed x;rw [he] at this;exact this
 have kone:cs.all AV.one=true:=Qy.one he
 have kts:=Sch.closedI ts
 have kt:AV.closedL [.isl 2 (mapE Sch.enc ts)]=true:=by simp [AV.closedL,kts]
 have k1:AV.closedL [.iptr [.isl 2 (mapE Sch.enc ts)]]=true:=by simp [AV.closedL,zd,kts]
 have k2:AV.closedL [.iptr cs]=true:=by simp [AV.closedL,zd,kq]
 have k3:AV.closedL [.iptr [.isl 2 (mapE Sch.enc ts)],.iptr cs]=true:=by simp [AV.closedL,zd,kts,kq]
 have w1:=xG 72 _ k1
 have w2:=xG 74 _ k2
 have w4:=xG 77 _ k3
 have w5:=xG 78 _ k3
 have q1:=xw k1 (P_Check1 ts x he hts hx)
 have q2:=xw k2 (P_Check2 ts x he hts hx)
 have q3:=P_Check3 ts x he hts hx
 have q4:=xw k3 (P_Check4 ts x he hts hx)
 have q5:=xw k3 (P_Check5 ts x he hts hx)
 have hr:∀ a b c d e:Prt,a.e=z7 ts→b.e=nmE x.nm→c.e=tpE ts x.vs x.pat→d.e=tkE ts x→e.e=wC ts x→zm Prt.e [a,b,c,d,e]=w7 ts x:=fun a b c d e h1 h2 h3 h4 h5=>by
  simp only [zm,w7,h1,h2,h3,h4,h5]
  by_cases b5:wC ts x=0<;>simp [b5]
 have qf:=P_firstL [⟨98,_,0,z7 ts⟩,⟨98,_,0,nmE x.nm⟩,⟨76,_,tpI ts x.vs x.pat,tpE ts x.vs x.pat⟩,⟨98,_,0,tkE ts x⟩,⟨98,_,0,wC ts x⟩] (by simp) (by intro p hp;simp only [List.mem_cons,List.not_mem_nil,or_false] at hp;rcases hp with rfl | rfl | rfl | rfl | rfl<;>simp [AV.closedL,zA,zd,kts,kq]) ⟨q1,fun _=>⟨q2,fun _=>⟨q3,fun _=>⟨q4,fun _=>⟨q5,fun _=>trivial⟩⟩⟩⟩⟩
 rw [hr _ _ _ _ _ rfl rfl rfl rfl rfl,zk] at qf
 simp only [List.map_cons,List.map_nil,Prt.enc] at qf
 generalize u0 _=R1 at qf
 rw [he]
 generalize w7 ts x=R at *
 clear q1 q2 q3 q4 q5 hr
 generalize mapE Sch.enc ts=ets at *
 clear he
 have k5:AV.closedL [.agg [.fn 98 [.iptr [.fn 72 [.iptr [.isl 2 ets]]]]],.agg [.fn 98 [.iptr [.fn 74 [.iptr cs]]]],.agg [.fn 76 [.iptr [.isl 2 ets],.iptr cs]],.agg [.fn 98 [.iptr [.fn 77 [.iptr [.isl 2 ets],.iptr cs]]]],.agg [.fn 98 [.iptr [.fn 78 [.iptr [.isl 2 ets],.iptr cs]]]]]=true:=by simp [AV.closedL,wb,zA,zd,kts,kq]
 refine zr ?_;unhygienic intros
 refine fB T24 [.t 4] ?_
 refine go rfl hX 0 (by conv=>lhs;cbv) ?_ ?_
 · simp only [Cd.ok];(first | exact trivial | exact kone | (and_intros<;>first | rfl | exact kone))
 refine xu (F':=[(8,.fn 72 [.iptr [.isl 2 ets]]),(3,.iptr cs),(2,.iptr [.isl 2 ets])]) (H':=[]) ?_ ?_
 · exact (zF [.icells ([.isl 2 ets]),.icells (cs)] [] ⟨⟨_,rfl,(zp _ kt).symm⟩,⟨_,rfl,(zp _ kq).symm⟩,trivial⟩ trivial ⟨.refl _,.refl _,.refl _,trivial⟩)
 refine oPA w1 ?_
 refine Aq ?_
 refine oPA w2 ?_
 refine Aq ?_
 refine oPA w4 ?_
 refine Aq ?_
 refine oPA w5 ?_
 refine Aq ?_
 refine yp rfl rfl qf rfl ⟨[.isl 1 ([.agg [.fn 98 [AV.iptr [.fn 72 [AV.iptr [.isl 2 ets]]]]],AV.agg [.fn 98 [AV.iptr [.fn 74 [AV.iptr cs]]]],AV.agg [.fn 76 [AV.iptr [.isl 2 ets],AV.iptr cs]],AV.agg [.fn 98 [AV.iptr [.fn 77 [AV.iptr [.isl 2 ets],AV.iptr cs]]]],AV.agg [.fn 98 [AV.iptr [.fn 78 [AV.iptr [.isl 2 ets],AV.iptr cs]]]]])],⟨⟨_,rfl,(zp _ k5).symm⟩,trivial⟩,⟨.refl _,trivial⟩⟩ ?_
 refine Aq ?_
 exact fV
def tsX : List Sch:=[⟨[65],[⟨[120],0⟩,⟨[115],2⟩]⟩,⟨[66],[⟨[115],2⟩]⟩]
def evX (t v:Int):Pat:=.mk 0 [] t v 0 0 yesE
def patX : Pat:=.mk 1 [evX 0 0,evX 1 1] 0 0 0 0 Ex0
def vsX : List Vr:=[⟨[97],0⟩,⟨[98],1⟩]
def vsY : List Vr:=[⟨[98],1⟩,⟨[97],0⟩]
def z6 (f:Int):Ex:=.mk 1 [] 0 f 0 Vl0
def qX (key:List Int) (rets:List Ex):Qy:=⟨[113],vsX,key,patX,rets⟩
theorem uy : z7 tsX=0:=by decide
theorem vsX_E : wl tsX vsX=0:=by decide
theorem vsY_E : wl tsX vsY=0:=by decide
theorem tK : wm tsX vsX=0:=by rw [wm,if_neg (by simp [uy]),vsX_E]
theorem dclY : wm tsX vsY=0:=by rw [wm,if_neg (by simp [uy]),vsY_E]
theorem nmX : nmE [113]=0:=by decide
theorem keyX1 : uu tsX vsX [1,0]=0:=by decide
theorem keyX2 : uu tsX vsX [0,0]=9:=by decide
theorem keyX3 : uu tsX vsX [1,-1]=16:=by decide
theorem xg : patX.nodes=[patX,evX 0 0,evX 1 1]:=by simp [patX,evX,Pat.nodes,Pat.nodesL]
theorem evX_bound (t v:Int):(evX t v).bound=[v]:=bound_of (by simp [evX,Pat.nodes,Pat.nodesL,xP,Pat.op,Pat.var]) (by simp)
theorem evX_ones (t v:Int):(evX t v).ones=[v]:=by simp [evX,Pat.ones,vZ]
theorem patX_bound : patX.bound=[0,1]:=bound_of (by rw [xg];simp [xP,patX,evX,Pat.op,Pat.var]) (by simp)
theorem patX_ones : patX.ones=[0,1]:=by
 simp only [patX,Pat.ones,Pat.onesL]
 simp only [vZ,evX_ones]
 rw [uni_1,uni_2 (by omega)];rfl
theorem evX_node (t v:Int) (h:0≤t∧t≤15∧0≤v∧v≤15):(evX t v).nodeE=0:=by
 simp [Pat.nodeE,evX,Pat.op,Pat.args,Pat.ty,Pat.var,Pat.scope,Pat.span,Pat.cond,wE,vC,zD,xO,yD,y8,yes15_chk]
 omega
theorem ub : patX.chk=0:=by
 have h0:∀ q∈patX.nodes,q.nodeE=0:=by
  rw [xg]
  intro q hq
  simp only [List.mem_cons,List.not_mem_nil,or_false] at hq
  rcases hq with rfl | rfl | rfl
  · simp [Pat.nodeE,patX,Pat.op,Pat.args,Pat.ty,Pat.var,Pat.scope,Pat.span,Pat.cond,wE,vC,zD,xO,yD,y8]
  · exact evX_node _ _ (by omega)
  exact evX_node _ _ (by omega)
 have h1:patX.cnt=3:=by rw [← Pat.nodes_len,xg];rfl
 have h2:patX.dep=2:=by simp [patX,evX,Pat.dep,Pat.depL]
 have h3:patX.chkR=0:=by
  rw [Pat.chkR,h1,h2,if_neg (by decide),if_neg (by decide)]
  exact xc h0
 have h4:patX.wholeE=0:=by
  rw [Pat.wholeE,h3,xg]
  simp [zm,patX,evX,Pat.op]
 rw [Pat.chk,h4,xg]
 simp [zC,wB,patX,evX,Pat.op,Pat.var,Pat.scope,zD,yD]
theorem patX_sm : patX.Sm:=by
 refine (Pat.Sm_iff _).2 ⟨by rw [xg];simp,?_⟩
 rw [xg]
 intro q hq
 have h0:Ex0.Sm:=by simp [Ex.Sm,Ex0,Ex.cnt,Ex.cntL]
 simp only [List.mem_cons,List.not_mem_nil,or_false] at hq
 rcases hq with rfl | rfl | rfl
 · exact h0
 · exact yes15_sm
 exact yes15_sm
theorem patX_nv : patX.nVars=2:=by
 rw [Pat.nVars,if_pos ub,xg]
 simp [zC,wB,patX,evX,Pat.op,Pat.var,Pat.scope,zD,yD]
theorem patX_lf : Pat.lf PlcS patX=[(patX,PlcS),(evX 0 0,PlcS),(evX 1 1,⟨[0],[0],-1⟩)]:=by
 have e1:PlcS.plus (evX 0 0)=⟨[0],[0],-1⟩:=by simp only [Plc.plus,PlcS];rw [evX_bound,evX_ones,uni_1]
 have e3:∀ l t v,Pat.lf l (evX t v)=[(evX t v,l)]:=fun l t v=>by simp [evX,Pat.lf,Pat.lfL]
 rw [patX,Pat.lf,Pat.lfL,Pat.lfL,Pat.lfL,show decide ((1:Int)=1)=true from rfl,if_pos rfl,e1,e3,e3]
 rfl
theorem patX_sc : patX.scE=0:=by
 have c0:yI (patX,PlcS)=0:=by simp [yI,patX,Pat.op,yB]
 have c1:∀ t v l,yI (evX t v,l)=0:=fun t v l=>by unfold yI;rw [if_pos (by rfl)];exact yes_fol _
 rw [scE_eq ub,patX_lf]
 simp only [zm,c0,c1];rfl
theorem cndX {ts:List Sch} {vs:List Vr} (h:wm ts vs=0):wQ ts vs yesE=0:=by rw [wQ,kindP_yes h];rfl
theorem tpX : tpE tsX vsX patX=0:=by
 have n0:ndE tsX vsX patX=0:=by simp [ndE,patX,Pat.op]
 have n1:ndE tsX vsX (evX 0 0)=0:=by
  have:ndE tsX vsX (evX 0 0)=wQ tsX vsX yesE:=by simp [ndE,evX,Pat.op,Pat.cond,Pat.ty,Pat.var,vty,vsX]
  rw [this,cndX tK]
 have n2:ndE tsX vsX (evX 1 1)=0:=by
  have:ndE tsX vsX (evX 1 1)=wQ tsX vsX yesE:=by simp [ndE,evX,Pat.op,Pat.cond,Pat.ty,Pat.var,vty,vsX]
  rw [this,cndX tK]
 have c:uT patX vsX=0:=by rw [uT,ub,patX_nv];decide
 rw [tpE,tK,c,xg,patX_sc]
 simp [zm,n0,n1,n2]
theorem tpY : tpE tsX vsY patX=9∧tpI tsX vsY patX=1:=by
 have n0:ndE tsX vsY patX=0:=by simp [ndE,patX,Pat.op]
 have n1:ndE tsX vsY (evX 0 0)=9:=by simp [ndE,evX,Pat.op,Pat.ty,Pat.var,vty,vsY]
 have c:uT patX vsY=0:=by rw [uT,ub,patX_nv];decide
 rw [tpE,tpI,dclY,c,xg]
 simp [zm,yg,n0,n1]
theorem fld_nodes (f:Int):(z6 f).nodes=[z6 f]:=by simp [z6,Ex.nodes,Ex.nodesL]
theorem fld_node (f:Int) (h:0≤f∧f<8):(z6 f).nodeE=0:=by
 simp [Ex.nodeE,z6,Ex.op,Ex.args,Ex.var,Ex.fld,Ex.kind,Ex.val,Ex.formB,wF,wH,vU,vP];omega
theorem fld_chk (f:Int) (h:0≤f∧f<8):(z6 f).chk=0:=by
 have h1:(z6 f).cnt=1:=by simp [z6,Ex.cnt,Ex.cntL]
 have h2:(z6 f).dep=1:=by simp [z6,Ex.dep,Ex.depL]
 rw [Ex.chk,h1,h2,fld_nodes,if_neg (by decide),if_neg (by decide)]
 exact xc fun q hq=>by rw [List.mem_singleton.1 hq];exact fld_node f h
theorem blw_chk (f:Int) (h:0≤f∧f<8):(yQ (z6 f)).chk=0:=by
 have h1:(yQ (z6 f)).cnt=3:=by simp [yQ,z6,Ex.cnt,Ex.cntL]
 have h2:(yQ (z6 f)).dep=2:=by simp [yQ,z6,Ex.dep,Ex.depL]
 have h3:(yQ (z6 f)).nodes=[yQ (z6 f),z6 f,.mk 0 [] 0 0 0 ⟨0,1,⟨#[]⟩⟩]:=by simp [yQ,z6,Ex.nodes,Ex.nodesL]
 have hz:(⟨#[]⟩:ByteArray).size=0:=rfl
 have n1:(yQ (z6 f)).nodeE=0:=by
  simp [Ex.nodeE,yQ,Ex.op,Ex.args,Ex.var,Ex.fld,Ex.kind,Ex.val,Ex.formB,wF,wH,vU,vP]
 have n3:(Ex.mk 0 [] 0 0 0 ⟨0,1,⟨#[]⟩⟩).nodeE=0:=by
  simp [hz,Ex.nodeE,Ex.op,Ex.args,Ex.var,Ex.fld,Ex.kind,Ex.val,Ex.consE,Ex.formB,wF,wH,vU,vP,Vl.chk,Vl.sizeE]
 rw [Ex.chk,h1,h2,h3,if_neg (by decide),if_neg (by decide)]
 exact xc fun q hq=>by
  simp only [List.mem_cons,List.not_mem_nil,or_false] at hq
  rcases hq with rfl | rfl | rfl
  · exact n1
  · exact fld_node f h
  exact n3
theorem fld_sm (f:Int):(z6 f).Sm:=by simp [Ex.Sm,z6,Ex.cnt,Ex.cntL]
theorem blw_sm (f:Int):(yQ (z6 f)).Sm:=by simp [Ex.Sm,yQ,z6,Ex.cnt,Ex.cntL]
theorem fld_kind : Ex.kindK tsX vsX (z6 0)=(0,0)∧Ex.kindK tsX vsX (z6 1)=(2,0):=by
 constructor<;>simp [z6,Ex.kindK,wA,tsX,vsX]
theorem one_kind (ts:List Sch) (vs:List Vr):Ex.kindK ts vs (.mk 0 [] 0 0 0 ⟨0,1,⟨#[]⟩⟩)=(0,0):=by simp [Ex.kindK,wA]
theorem cndX1 : wQ tsX vsX (yQ (z6 0))=0:=by
 obtain ⟨_,_,hv⟩:=vF tK
 have k:Ex.kindK tsX vsX (yQ (z6 0))=(1,0):=by
  rw [yQ,kindK_all (by simp)]
  simp [Ex.kindsK,fld_kind.1,one_kind,um,fK]
 rw [wQ,xR,uy,hv,blw_chk 0 (by omega),k];rfl
theorem cndX2 : wQ tsX vsX (z6 0)=9:=by
 obtain ⟨_,_,hv⟩:=vF tK
 rw [wQ,xR,uy,hv,fld_chk 0 (by omega),fld_kind.1];rfl
theorem cndX3 : wQ tsX vsX (yQ (z6 1))=9:=by
 obtain ⟨_,_,hv⟩:=vF tK
 have k:Ex.kindK tsX vsX (yQ (z6 1))=(0,9):=by
  rw [yQ,kindK_all (by simp)]
  simp [Ex.kindsK,fld_kind.2,one_kind,um,fK]
 rw [wQ,xR,uy,hv,blw_chk 1 (by omega),k];rfl
theorem kndX : xR tsX vsX (z6 0)=(0,0):=by
 obtain ⟨_,_,hv⟩:=vF tK
 rw [xR,uy,hv,fld_chk 0 (by omega),fld_kind.1];rfl
theorem rtX : patX.rtE [z6 0]=0:=by
 have hp:patX.retP=⟨[0,1],[0,1],-1⟩:=by rw [Pat.retP,patX_bound,patX_ones]
 have r1:x8 ⟨[0,1],[0,1],-1⟩ (z6 0)=0:=by
  rw [x8,fld_chk 0 (by omega),Ex.fol,fld_nodes]
  simp [zm,uB,z6,Ex.op,Ex.var]
 rw [rtE_eq ub (by decide),hp]
 simp [zm,r1]
theorem rtsX (key:List Int):wC tsX (qX key [z6 0])=0∧w8 tsX (qX key [z6 0])=[0]:=by
 have e:wC tsX (qX key [z6 0])=0:=by
  unfold wC
  show (if tpE tsX vsX patX≠0 then tpE tsX vsX patX else if uS [z6 0]≠0 then uS [z6 0] else if zm (rkE tsX vsX) [z6 0]≠0 then zm (rkE tsX vsX) [z6 0] else patX.rtE [z6 0])=0
  have r:rkE tsX vsX (z6 0)=0:=by rw [rkE,kndX]
  have l:uS [z6 0]=0:=by simp [uS]
  rw [tpX,rtX,l,zm,r,zm];rfl
 refine ⟨e,?_⟩
 rw [w8,e,if_neg (by simp)]
 show [rkK tsX vsX (z6 0)]=[0]
 rw [rkK,kndX]
theorem rtsX0 (key:List Int):wC tsX (qX key [])=15:=by
 unfold wC
 show (if tpE tsX vsX patX≠0 then tpE tsX vsX patX else if uS []≠0 then uS [] else _)=15
 have l:uS []=15:=by simp [uS]
 rw [tpX,l,if_neg (by simp),if_pos (by decide)]
theorem chkX (key:List Int) (r:List Ex):w7 tsX (qX key r)=if uu tsX vsX key≠0 then uu tsX vsX key else wC tsX (qX key r):=by
 unfold w7 tkE
 show (if z7 tsX≠0 then z7 tsX else if nmE [113]≠0 then nmE [113] else if tpE tsX vsX patX≠0 then tpE tsX vsX patX else if (if wm tsX vsX≠0 then wm tsX vsX else uu tsX vsX key)≠0 then (if wm tsX vsX≠0 then wm tsX vsX else uu tsX vsX key) else wC tsX (qX key r))=_
 rw [uy,nmX,tpX,tK];simp
theorem chkX1 : w7 tsX (qX [1,0] [z6 0])=0:=by rw [chkX,keyX1,(rtsX _).1];rfl
theorem chkX2 : w7 tsX (qX [0,0] [z6 0])=9:=by rw [chkX,keyX2];rfl
theorem chkX3 : w7 tsX (qX [1,-1] [z6 0])=16:=by rw [chkX,keyX3];rfl
theorem chkX4 : w7 tsX (qX [1,0] [])=15:=by rw [chkX,keyX1,rtsX0];rfl
def tC (l:List Sch):Bool:=l.all fun q=>decide (q.fs.length≤20∧q.nm.length≤100)
def te (l:List Sch):Bool:=tC l && decide (l.length≤20)
theorem P_Few (l:List Sch) (hl:l.length<1152921504606846976) (_hs:∀ q∈l,q.Short):PCall EE 11 [.isl 2 (mapE Sch.enc l)] (bool (te l)):=by
 have kcl:=Sch.closedI l
 obtain ⟨R,hR⟩:∃ R,R=te l:=⟨_,rfl⟩
 rw [← hR]
 rw [te] at hR
 refine zr ?_;unhygienic intros
 generalize hes:mapE Sch.enc l=es at *
 have hel:es.length=l.length:=by rw [← hes,zq]
 have kR:iLe (lenA es) 20=decide (l.length≤20):=by simp only [ee];rw [Bool.eq_iff_iff];simp;omega
 refine fB T11 [.t 2] ?_
 refine Aq ?_
 refine zf (ι:=List Sch × List Sch × Int) (fun p=>([(3,int p.2.2),(0,.isl 2 es)],[])) (fun p=>l=p.1++p.2.1∧p.2.2=p.1.length∧tC p.1=true) (fun p=>p.2.1.length) ([],l,0) ⟨rfl,rfl,rfl⟩ ?_ ?_
 · exact (eS [] [])
 rintro ⟨d,r,i⟩ ⟨g1,gi,gd⟩
 dsimp only at g1 gi gd ⊢
 cases r with
 | nil =>
  have L1:=zu g1
  try simp only [List.length] at L1
  have hc:iLt i (lenA es)=false:=yW e_iLt e_lenA (by omega)
  have e1:R=decide (l.length≤20):=by
   rw [hR]
   rw [List.append_nil] at g1
   rw [← g1] at gd
   rw [gd,Bool.true_and]
  rw [← kR] at e1
  subst e1
  clear hR
  have fz:=hc
  refine Cq ?_
  refine Aq ?_
  refine zo ?_
  refine Aq ?_
  exact fV
 | cons f r =>
  have L1:=zu g1
  try simp only [List.length] at L1
  have hc:iLt i (lenA es)=true:=yY e_iLt e_lenA (by omega)
  have hat:=zP e_atA hes g1 gi
  rw [Sch.enc_eq] at hat
  have hi2:iAdd .i64 i 1=((d++[f]).length:Int):=by rw [List.length_append];exact zJ e_iAdd gi (by omega)
  have hfl:=zq Fld.enc f.fs
  have hsz:=wU f.nm
  have hf1:tC (d++[f])=decide (f.fs.length≤20∧f.nm.length≤100):=by
   rw [tC] at gd ⊢
   rw [List.all_append,gd];simp
  have hf0:¬ (f.fs.length≤20∧f.nm.length≤100)→R=false:=fun h=>by
   rw [hR,tC,g1]
   simp only [List.all_append,List.all_cons]
   rw [decide_eq_false h];simp
  have ka:20<f.fs.length→iLt 20 (lenA (mapE Fld.enc f.fs))=true:=fun h=>by simp only [ee];simp;omega
  have kb:¬ 20<f.fs.length→iLt 20 (lenA (mapE Fld.enc f.fs))=false:=fun h=>by simp only [ee];simp;omega
  have kc:100<f.nm.length→iLt 100 (sLen (ba f.nm))=true:=fun h=>by simp only [ee];simp;omega
  have kd:¬ 100<f.nm.length→iLt 100 (sLen (ba f.nm))=false:=fun h=>by simp only [ee];simp;omega
  generalize mapE Fld.enc f.fs=fe at *
  generalize ba f.nm=fs at *
  by_cases n1:20<f.fs.length
  · have k1:=ka n1
    rw [hf0 (by omega)]
    have fz:=And.intro hc (And.intro hat k1)
    refine Cq ?_
    refine Cr ?_
    refine oC (fun c1=>?_) fun c1=>?_
    ·
     simp [ee] at c1
     refine Aq ?_
     refine zl ?_
     refine Aq ?_
     exact fV
    simp [ee] at c1
  have k1:=kb n1
  by_cases n2:100<f.nm.length
  · have k2:=kc n2
    rw [hf0 (by omega)]
    have fz:=And.intro hc (And.intro hat (And.intro k1 k2))
    refine Cq ?_
    refine Cr ?_
    refine oC (fun c1=>?_) fun c1=>?_
    ·
     simp [ee] at c1
     refine Aq ?_
     refine zl ?_
     refine Aq ?_
     exact fV
    simp [ee] at c1
  have k2:=kd n2
  have hf2:tC (d++[f])=true:=by rw [hf1];exact decide_eq_true (by omega)
  have fz:=And.intro hc (And.intro hat (And.intro k1 k2))
  refine Cq ?_
  refine Cr ?_
  refine oC (fun c1=>?_) fun c1=>?_
  ·
   simp [ee] at c1
  simp [ee] at c1
  refine Aq ?_
  refine zw (d++[f],r,iAdd .i64 i 1) ⟨by simp [g1],hi2,hf2⟩ (by simp) (eS [] [])
def Qy.few (x:Qy):Bool:=decide (x.vs.length≤20∧x.key.length≤30∧x.rets.length≤20∧x.nm.length≤80) && x.pat.few && x.rets.all Ex.few
theorem P_FewQuery (x:Qy) (hx:x.Ok):PCall EE 48 [x.enc] (bool x.few):=by
 have p1:=P_ref09_Few x.pat hx.pat
 have hk:∀ e∈x.rets,PCall EE 12 [e.enc] (bool e.few):=fun e he=>P_ref08_Few e (hx.rets e he)
 have kvs:=Vr.closedI x.vs
 have krs:=Ex.closedI x.rets
 have kks:=zx x.key
 have hrl:=hx.rl
 obtain ⟨R,hR⟩:∃ R,R=x.few:=⟨_,rfl⟩
 rw [← hR]
 unfold Qy.few at hR
 obtain ⟨pO,pA,pT,pV,pS,pN,pCo,pCa,pCv,pCf,pCk,pXk,pXn,pXt,he,hpe,kpA,kpC⟩:=Qy.form x
 rw [hpe] at p1
 rw [he]
 have hvl:(mapE Vr.enc x.vs).length=x.vs.length:=zq ..
 have hkl:(mapE int x.key).length=x.key.length:=zq ..
 have hnl:=wU x.nm
 generalize x.pat.few=pf at *
 generalize x.rets=rets at *
 have hrn:(mapE Ex.enc rets).length=rets.length:=zq ..
 generalize hes:mapE Ex.enc rets=es at *
 generalize mapE Vr.enc x.vs=evs at *
 generalize mapE int x.key=key at *
 generalize ba x.nm=nm at *
 clear he hpe hx
 generalize x.vs.length=lv at *
 generalize x.key.length=lk at *
 generalize x.nm.length=ln at *
 refine zr ?_;unhygienic intros
 have n0:bNot false=true:=by simp only [ee];rfl
 have n1:bNot true=false:=by simp only [ee];rfl
 by_cases h1:20<lv
 · have q1:iLt 20 (lenA evs)=true:=by simp only [ee];simp;omega
   have hR:R=false:=by rw [hR,decide_eq_false (by omega)];simp
   rw [hR]
   refine fB T48 [.t 2] ?_
   have fz:=q1
   refine Cq ?_
   refine zj rfl rfl (fun c1=>?_) (fun c1=>?_)
   ·
    simp [ee] at c1
    refine Aq ?_
    refine zi rfl rfl ?_
    refine Aq ?_
    exact fV
   simp [ee] at c1
 have q1:iLt 20 (lenA evs)=false:=by simp only [ee];simp;omega
 by_cases h2:30<lk
 · have q2:iLt 30 (lenA key)=true:=by simp only [ee];simp;omega
   have hR:R=false:=by rw [hR,decide_eq_false (by omega)];simp
   rw [hR]
   refine fB T48 [.t 2] ?_
   have fz:=And.intro q1 q2
   refine Cq ?_
   refine zj rfl rfl (fun c1=>?_) (fun c1=>?_)
   ·
    simp [ee] at c1
    refine Aq ?_
    refine zi rfl rfl ?_
    refine Aq ?_
    exact fV
   simp [ee] at c1
 have q2:iLt 30 (lenA key)=false:=by simp only [ee];simp;omega
 by_cases h3:20<rets.length
 · have q3:iLt 20 (lenA es)=true:=by simp only [ee];simp;omega
   have hR:R=false:=by rw [hR,decide_eq_false (by omega)];simp
   rw [hR]
   refine fB T48 [.t 2] ?_
   have fz:=And.intro q1 (And.intro q2 q3)
   refine Cq ?_
   refine zj rfl rfl (fun c1=>?_) (fun c1=>?_)
   ·
    simp [ee] at c1
    refine Aq ?_
    refine zi rfl rfl ?_
    refine Aq ?_
    exact fV
   simp [ee] at c1
 have q3:iLt 20 (lenA es)=false:=by simp only [ee];simp;omega
 by_cases h4:80<ln
 · have q4:iLt 80 (sLen nm)=true:=by simp only [ee];simp;omega
   have hR:R=false:=by rw [hR,decide_eq_false (by omega)];simp
   rw [hR]
   refine fB T48 [.t 2] ?_
   have fz:=And.intro q1 (And.intro q2 (And.intro q3 q4))
   refine Cq ?_
   refine zj rfl rfl (fun c1=>?_) (fun c1=>?_)
   ·
    simp [ee] at c1
    refine Aq ?_
    refine zi rfl rfl ?_
    refine Aq ?_
    exact fV
   simp [ee] at c1
 have q4:iLt 80 (sLen nm)=false:=by simp only [ee];simp;omega
 rw [decide_eq_true (by omega),Bool.true_and] at hR
 cases pf with
 | false =>
  rw [hR]
  refine fB T48 [.t 2] ?_
  have fz:=And.intro q1 (And.intro q2 (And.intro q3 (And.intro q4 n0)))
  refine Cq ?_
  refine zj rfl rfl (fun c1=>?_) (fun c1=>?_)
  ·
   simp [ee] at c1
  simp [ee] at c1
  refine Aq ?_
  refine oPG p1 ?_
  refine Cq ?_
  refine oC (fun c2=>?_) fun c2=>?_
  ·
   simp [ee] at c2
   refine Aq ?_
   exact fV
  simp [ee] at c2
 | true =>
 rw [Bool.true_and] at hR
 refine fB T48 [.t 2] ?_
 have fz:=And.intro q1 (And.intro q2 (And.intro q3 (And.intro q4 n1)))
 refine Cq ?_
 refine zj rfl rfl (fun c1=>?_) (fun c1=>?_)
 · simp [ee] at c1
 simp [ee] at c1
 refine Aq ?_
 refine oPG p1 ?_
 refine Cq ?_
 refine oC (fun c2=>?_) fun c2=>?_
 · simp [ee] at c2
 simp [ee] at c2
 refine Aq ?_
 refine zf (ι:=List Ex × List Ex × Int) (fun p=>([(3,int p.2.2),(1,.ptr 0 0)],[.cells [str nm,.isl 2 evs,.isl 1 key,int pO,.isl 14 pA,int pT,int pV,int pS,int pN,int pCo,.isl 8 pCa,int pCv,int pCf,int pCk,int pXk,int pXn,str pXt,.isl 8 es]])) (fun p=>rets=p.1++p.2.1∧p.2.2=p.1.length∧R=p.2.1.all Ex.few) (fun p=>p.2.1.length) ([],rets,0) ⟨rfl,rfl,hR⟩ ?_ ?_
 · exact (eS [.to 0] [some 0])
 rintro ⟨d,r,i⟩ ⟨g1,gi,gR⟩
 dsimp only at g1 gi gR ⊢
 cases r with
 | nil =>
  have L1:=zu g1
  try simp only [List.length] at L1
  have hc:iLt i (lenA es)=false:=yW e_iLt e_lenA (by omega)
  rw [gR]
  have fz:=hc
  refine Cq ?_
  refine Aq ?_
  refine zo ?_
  refine Aq ?_
  exact fV
 | cons e r =>
  have L1:=zu g1
  try simp only [List.length] at L1
  have hc:iLt i (lenA es)=true:=yY e_iLt e_lenA (by omega)
  have hat:=zP e_atA hes g1 gi
  have hi2:iAdd .i64 i 1=((d++[e]).length:Int):=by rw [List.length_append];exact zJ e_iAdd gi (by omega)
  have hib:0≤i∧i<lenA es:=by simp only [ee];omega
  have pk:=hk e (by rw [g1];simp)
  rw [List.all_cons] at gR
  have kec:=Ex.closed e
  generalize e.few=fe at *
  obtain ⟨eO,eA,eV,eF,eK,eXk,eXn,eXt,hxe⟩:=Ex.form e
  rw [hxe] at hat pk kec
  clear hk hxe hR
  cases fe with
  | false =>
   rw [gR]
   have fz:=And.intro hc (And.intro hat n0)
   refine Cq ?_
   refine Cr ?_
   refine oPA pk ?_
   refine Cq ?_
   refine Aq ?_
   refine zl ?_
   refine Aq ?_
   exact fV
  | true =>
   rw [Bool.true_and] at gR
   have fz:=And.intro hc (And.intro hat n1)
   refine Cq ?_
   refine Cr ?_
   refine oPA pk ?_
   refine Cq ?_
   refine Aq ?_
   refine zw (d++[e],r,iAdd .i64 i 1) ⟨by rw [g1];simp,hi2,gR⟩ (by simp) (eS [.to 0] [some 0])
def fewP (ts:List Sch) (qs:List Qy):Bool:=te ts && decide (qs.length≤20) && qs.all Qy.few
theorem P_Few14 (ts:List Sch) (qs:List Qy) (hts:xW ts) (hqs:qs.length<1048577) (hq:∀ x∈qs,x.Ok) :
 PCall EE 35 [.agg [.isl 2 (mapE Sch.enc ts),.isl 18 (mapE Qy.enc qs)]] (bool (fewP ts qs)):=by
 have p1:=P_Few ts (by have:=hts.len;omega) hts.sh
 have hk:∀ x∈qs,PCall EE 48 [x.enc] (bool x.few):=fun x hx=>P_FewQuery x (hq x hx)
 have kts:=Sch.closedI ts
 have kqs:=Qy.closedI qs
 obtain ⟨R,hR⟩:∃ R,R=fewP ts qs:=⟨_,rfl⟩
 rw [← hR]
 unfold fewP at hR
 have hel:(mapE Qy.enc qs).length=qs.length:=zq ..
 generalize hes:mapE Qy.enc qs=es at *
 generalize mapE Sch.enc ts=ets at *
 generalize te ts=fb at *
 have kq2:AV.closedL [.isl 2 ets,.isl 18 es]=true:=by simp [AV.closedL,kts,kqs]
 clear hts hq
 refine zr ?_;unhygienic intros
 have n0:bNot false=true:=by simp only [ee];rfl
 have n1:bNot true=false:=by simp only [ee];rfl
 cases fb with
 | false =>
  rw [hR]
  refine fB T35 [.t 2] ?_
  refine Aq ?_
  refine oPA p1 ?_
  have fz:=n0
  refine Cq ?_
  refine oC (fun c1=>?_) fun c1=>?_
  ·
   simp [ee] at c1
   refine Aq ?_
   exact fV
  simp [ee] at c1
 | true =>
 rw [Bool.true_and] at hR
 by_cases h2:20<qs.length
 · have q2:iLt 20 (lenA es)=true:=by simp only [ee];simp;omega
   rw [decide_eq_false (by omega)] at hR
   rw [hR]
   refine fB T35 [.t 2] ?_
   refine Aq ?_
   refine oPA p1 ?_
   have fz:=And.intro n1 q2
   refine Cq ?_
   refine oC (fun c1=>?_) fun c1=>?_
   ·
    simp [ee] at c1
    refine Aq ?_
    exact fV
   simp [ee] at c1
 have q2:iLt 20 (lenA es)=false:=by simp only [ee];simp;omega
 rw [decide_eq_true (by omega),Bool.true_and] at hR
 refine fB T35 [.t 2] ?_
 refine Aq ?_
 refine oPA p1 ?_
 have fz:=And.intro n1 q2
 refine Cq ?_
 refine oC (fun c1=>?_) fun c1=>?_
 · simp [ee] at c1
 simp [ee] at c1
 refine Aq ?_
 refine zf (ι:=List Qy × List Qy × Int) (fun p=>([(3,int p.2.2),(1,.ptr 0 0)],[.cells [.isl 2 ets,.isl 18 es]])) (fun p=>qs=p.1++p.2.1∧p.2.2=p.1.length∧R=p.2.1.all Qy.few) (fun p=>p.2.1.length) ([],qs,0) ⟨rfl,rfl,hR⟩ ?_ ?_
 · exact (eS [.to 0] [some 0])
 rintro ⟨d,r,i⟩ ⟨g1,gi,gR⟩
 dsimp only at g1 gi gR ⊢
 cases r with
 | nil =>
  have L1:=zu g1
  try simp only [List.length] at L1
  have hc:iLt i (lenA es)=false:=yW e_iLt e_lenA (by omega)
  rw [gR]
  have fz:=hc
  refine Cq ?_
  refine Aq ?_
  refine zo ?_
  refine Aq ?_
  exact fV
 | cons x r =>
  have L1:=zu g1
  try simp only [List.length] at L1
  have hc:iLt i (lenA es)=true:=yY e_iLt e_lenA (by omega)
  have hat:=zP e_atA hes g1 gi
  have hi2:iAdd .i64 i 1=((d++[x]).length:Int):=by rw [List.length_append];exact zJ e_iAdd gi (by omega)
  have hib:0≤i∧i<lenA es:=by simp only [ee];omega
  have pk:=hk x (by rw [g1];simp)
  rw [List.all_cons] at gR
  generalize x.few=fe at *
  obtain ⟨pO,pA,pT,pV,pS,pN,pCo,pCa,pCv,pCf,pCk,pXk,pXn,pXt,he,hpe,kpA,kpC⟩:=Qy.form x
  have kvs:=Vr.closedI x.vs
  have krs:=Ex.closedI x.rets
  have kks:=zx x.key
  rw [he] at hat pk
  clear hk hR he hpe
  generalize mapE Vr.enc x.vs=evs at *
  generalize mapE Ex.enc x.rets=rs at *
  generalize mapE int x.key=key at *
  generalize ba x.nm=nm at *
  cases fe with
  | false =>
   rw [gR]
   have fz:=And.intro hc (And.intro hat n0)
   refine Cq ?_
   refine Cr ?_
   refine oPA pk ?_
   refine Cq ?_
   refine Aq ?_
   refine zl ?_
   refine Aq ?_
   exact fV
  | true =>
   rw [Bool.true_and] at gR
   have fz:=And.intro hc (And.intro hat n1)
   refine Cq ?_
   refine Cr ?_
   refine oPA pk ?_
   refine Cq ?_
   refine Aq ?_
   refine zw (d++[x],r,iAdd .i64 i 1) ⟨by rw [g1];simp,hi2,gR⟩ (by simp) (eS [.to 0] [some 0])
theorem P_few16 (ts:List Sch) (x:Qy) (hts:xW ts) (hx:x.Ok):PCall EE 16 [.isl 2 (mapE Sch.enc ts),x.enc] (bool (te ts && x.few)):=by
 have p1:=P_Few ts (by have:=hts.len;omega) hts.sh
 have p2:=P_FewQuery x hx
 have kts:=Sch.closedI ts
 have kvs:=Vr.closedI x.vs
 have krs:=Ex.closedI x.rets
 have kks:=zx x.key
 obtain ⟨pO,pA,pT,pV,pS,pN,pCo,pCa,pCv,pCf,pCk,pXk,pXn,pXt,he,hpe,kpA,kpC⟩:=Qy.form x
 rw [he] at p2 ⊢
 generalize te ts=b1 at *
 generalize x.few=b2 at *
 generalize mapE Sch.enc ts=ets at *
 generalize mapE Vr.enc x.vs=evs at *
 generalize mapE Ex.enc x.rets=rs at *
 generalize mapE int x.key=key at *
 generalize ba x.nm=nm at *
 clear he hpe
 refine zr ?_;unhygienic intros
 refine fB T16 [.t 4] ?_
 cases b1 with
 | false =>
  refine Aq ?_
  refine oPA p1 ?_
  refine Aq ?_
  exact fV
 | true =>
  refine Aq ?_
  refine oPA p1 ?_
  refine Aq ?_
  refine oPG p2 ?_
  refine Aq ?_
  exact fV
theorem P_truth16 : PCall EE 28 [] yesE.enc:=by
 have h1:PCall EE 82 [bool true] (.agg [int 1,int 1,str ⟨#[]⟩]):=P_Flag true
 rw [yesE.enc_eq]
 refine zr ?_;unhygienic intros
 refine fB T28 [.cell 0 8 true] ?_
 refine Aq ?_
 refine oPA h1 ?_
 refine Aq ?_
 exact fE [.gone]
theorem P_below16 (e:Ex):PCall EE 45 [e.enc] (yQ e).enc:=by
 have hR:(yQ e).enc=.agg [int 7,.isl 8 [e.enc,.agg [int 0,.isl 8 [],int 0,int 0,int 0,int 0,int 1,str ⟨#[]⟩]],int 0,int 0,int 0,int 0,int 0,str ⟨#[]⟩]:=by
  simp only [yQ,Ex.enc_mk,zk,List.map_cons,List.map_nil,Vl0]
 rw [hR]
 have c1:=Ex.closed e
 obtain ⟨eO,eA,eV,eF,eK,eXk,eXn,eXt,hx1⟩:=Ex.form e
 rw [hx1] at c1 ⊢
 clear hR hx1
 refine PCall.weak2 (v:=.agg [int 7,.isl 8 [.agg [int eO,.isl 8 eA,int eV,int eF,int eK,int eXk,int eXn,str eXt],.agg [int 0,.val (.slice none 0 0),int 0,int 0,int 0,int 0,int 1,str ⟨#[]⟩]],int 0,int 0,int 0,int 0,int 0,str ⟨#[]⟩]) ?_ ?_
 rotate_left
 · exact .agg' ⟨.refl _,.isl' ⟨.refl _,⟨.refl _,.nilI _,.refl _,.refl _,.refl _,.refl _,.refl _,.refl _,trivial⟩,trivial⟩,.refl _,.refl _,.refl _,.refl _,.refl _,.refl _,trivial⟩
 refine zr ?_;unhygienic intros
 refine fB T45 [.cell 2 8 true] ?_
 refine Aq ?_
 refine zR rfl rfl ?_
 have hp1:∀ σ,AV.sub σ (.agg [int eO,.isl 8 eA,int eV,int eF,int eK,int eXk,int eXn,str eXt])=.agg [int eO,.isl 8 eA,int eV,int eF,int eK,int eXk,int eXn,str eXt]:=fun σ=>zX _ _ _ (Nat.le_refl _) c1
 exact ⟨[.gone,.gone,.isl 8 [.agg [int eO,.isl 8 eA,int eV,int eF,int eK,int eXk,int eXn,str eXt],.agg [int 0,.val (.slice none 0 0),int 0,int 0,int 0,int 0,int 1,str ⟨#[]⟩]]],⟨trivial,trivial,⟨_,rfl,by simp only [AV.subL,hp1];rfl⟩,trivial⟩,.of rfl⟩
theorem tsX_enc : mapE Sch.enc tsX=[.agg [str ⟨#[65]⟩,.isl 2 [.agg [str ⟨#[120]⟩,int 0],.agg [str ⟨#[115]⟩,int 2]]],.agg [str ⟨#[66]⟩,.isl 2 [.agg [str ⟨#[115]⟩,int 2]]]]:=by
 simp only [tsX,zk,List.map_cons,List.map_nil,Sch.enc_eq,Fld.enc_eq,vB]
theorem P_schemas : PCall EE 43 [] (.isl 2 (mapE Sch.enc tsX)):=by
 rw [tsX_enc]
 refine zr ?_;unhygienic intros
 refine fB T43 [.t 0] ?_
 refine Aq ?_
 exact fE [.gone,.isl 2 [.agg [str ⟨#[120]⟩,int 0],.agg [str ⟨#[115]⟩,int 2]],.isl 2 [.agg [str ⟨#[115]⟩,int 2]],.isl 2 [.agg [str ⟨#[65]⟩,.isl 2 [.agg [str ⟨#[120]⟩,int 0],.agg [str ⟨#[115]⟩,int 2]]],.agg [str ⟨#[66]⟩,.isl 2 [.agg [str ⟨#[115]⟩,int 2]]]]]
theorem P_example16 (key:List Int):PCall EE 44 [.isl 1 (mapE int key)] (qX key [z6 0]).enc:=by
 have p1:=P_truth16
 rw [yesE.enc_eq] at p1
 have kk:=zx key
 rw [Qy.enc_eq]
 have hR:(AV.agg ([str (ba (qX key [z6 0]).nm),.isl 2 (mapE Vr.enc (qX key [z6 0]).vs),.isl 1 (mapE int (qX key [z6 0]).key)]++(qX key [z6 0]).pat.enc.cells++[.isl 8 (mapE Ex.enc (qX key [z6 0]).rets)])) =
  .agg [str ⟨#[113]⟩,.isl 2 [.agg [str ⟨#[97]⟩,int 0],.agg [str ⟨#[98]⟩,int 1]],.isl 1 (mapE int key),int 1,.isl 14 [.agg [int 0,.isl 14 [],int 0,int 0,int 0,int 0,int 0,.isl 8 [],int 0,int 0,int 0,int 1,int 1,str ⟨#[]⟩],.agg [int 0,.isl 14 [],int 1,int 1,int 0,int 0,int 0,.isl 8 [],int 0,int 0,int 0,int 1,int 1,str ⟨#[]⟩]],int 0,int 0,int 0,int 0,int 0,.isl 8 [],int 0,int 0,int 0,int 0,int 0,str ⟨#[]⟩,.isl 8 [.agg [int 1,.isl 8 [],int 0,int 0,int 0,int 0,int 0,str ⟨#[]⟩]]]:=by
  have e1:mapE Vr.enc vsX=[.agg [str ⟨#[97]⟩,int 0],.agg [str ⟨#[98]⟩,int 1]]:=by simp only [vsX,zk,List.map_cons,List.map_nil,Vr.enc_eq,vB]
  have e2:mapE Ex.enc [z6 0]=[.agg [int 1,.isl 8 [],int 0,int 0,int 0,int 0,int 0,str ⟨#[]⟩]]:=by simp only [z6,zk,List.map_cons,List.map_nil,Ex.enc_mk,Vl0]
  have e3:patX.enc=.agg [int 1,.isl 14 [.agg [int 0,.isl 14 [],int 0,int 0,int 0,int 0,int 0,.isl 8 [],int 0,int 0,int 0,int 1,int 1,str ⟨#[]⟩],.agg [int 0,.isl 14 [],int 1,int 1,int 0,int 0,int 0,.isl 8 [],int 0,int 0,int 0,int 1,int 1,str ⟨#[]⟩]],int 0,int 0,int 0,int 0,int 0,.isl 8 [],int 0,int 0,int 0,int 0,int 0,str ⟨#[]⟩]:=by
   simp only [patX,evX,Ex0,yesE,Pat.enc_mk,zk,List.map_cons,List.map_nil,Vl0]
  show AV.agg ([str (ba [113]),.isl 2 (mapE Vr.enc vsX),.isl 1 (mapE int key)]++patX.enc.cells++[.isl 8 (mapE Ex.enc [z6 0])])=_
  rw [e1,e2,e3,vB];rfl
 rw [hR]
 clear hR
 generalize mapE int key=ks at *
 refine PCall.weak2 (v:=.agg [str ⟨#[113]⟩,.isl 2 [.agg [str ⟨#[97]⟩,int 0],.agg [str ⟨#[98]⟩,int 1]],.isl 1 ks,int 1,.isl 14 [.agg [int 0,.val (.slice none 0 0),int 0,int 0,int 0,int 0,int 0,.isl 8 [],int 0,int 0,int 0,int 1,int 1,str ⟨#[]⟩],.agg [int 0,.val (.slice none 0 0),int 1,int 1,int 0,int 0,int 0,.isl 8 [],int 0,int 0,int 0,int 1,int 1,str ⟨#[]⟩]],int 0,int 0,int 0,int 0,int 0,.val (.slice none 0 0),int 0,int 0,int 0,int 0,int 0,str ⟨#[]⟩,.isl 8 [.agg [int 1,.val (.slice none 0 0),int 0,int 0,int 0,int 0,int 0,str ⟨#[]⟩]]]) ?_ ?_
 rotate_left
 · exact .agg' ⟨.refl _,.refl _,.refl _,.refl _,.isl' ⟨⟨.refl _,.nilI _,.refl _,.refl _,.refl _,.refl _,.refl _,.refl _,.refl _,.refl _,.refl _,.refl _,.refl _,.refl _,trivial⟩,⟨.refl _,.nilI _,.refl _,.refl _,.refl _,.refl _,.refl _,.refl _,.refl _,.refl _,.refl _,.refl _,.refl _,.refl _,trivial⟩,trivial⟩,.refl _,.refl _,.refl _,.refl _,.refl _,.nilI _,.refl _,.refl _,.refl _,.refl _,.refl _,.refl _,.isl' ⟨⟨.refl _,.nilI _,.refl _,.refl _,.refl _,.refl _,.refl _,.refl _,trivial⟩,trivial⟩,trivial⟩
 refine zr ?_;unhygienic intros
 refine fB T44 [.cell 2 18 true] ?_
 refine Aq ?_
 refine oPA p1 ?_
 refine Aq ?_
 refine oPA p1 ?_
 refine Aq ?_
 refine zR rfl rfl ?_
 exact ⟨[.gone,.isl 14 ([.agg [int 0,AV.val (.slice none 0 0),int 0,int 0,int 0,int 0,int 0,.isl 8 [],int 0,int 0,int 0,int 1,int 1,AV.val (Value.string { data:={ toList:=[] } })],AV.agg [int 0,AV.val (.slice none 0 0),int 1,int 1,int 0,int 0,int 0,.isl 8 [],int 0,int 0,int 0,int 1,int 1,AV.val (Value.string { data:={ toList:=[] } })]]),.gone,.isl 2 ([.agg [AV.val (Value.string { data:={ toList:=[97] } }),int 0],AV.agg [AV.val (Value.string { data:={ toList:=[98] } }),int 1]]),.isl 8 ([.agg [int 1,AV.val (.slice none 0 0),int 0,int 0,int 0,int 0,int 0,AV.val (Value.string { data:={ toList:=[] } })]])],⟨trivial,⟨_,rfl,(zp _ (by rfl)).symm⟩,trivial,⟨_,rfl,(zp _ (by rfl)).symm⟩,⟨_,rfl,(zp _ (by rfl)).symm⟩,trivial⟩,.agg' ⟨.refl _,.refl _,.cl kk,.refl _,.refl _,.refl _,.refl _,.refl _,.refl _,.refl _,.refl _,.refl _,.refl _,.refl _,.refl _,.refl _,.refl _,.refl _,trivial⟩⟩
theorem P_ref16Returns (ts:List Sch) (x:Qy) (hts:xW ts) (hx:x.Ok) :
 PCall EE 22 [.isl 2 (mapE Sch.enc ts),x.enc] (.tup [.isl 1 (mapE int (w8 ts x)),int (wC ts x)]):=by
 have p1:=P_ref16Pattern ts x.vs x.pat hx.pat hts hx.vs hx.vn
 have p4:=P_ref15_Returns x.pat x.rets hx.pat hx.rets hx.rl
 have hk:∀ e∈x.rets,PCall EE 47 [.isl 2 (mapE Sch.enc ts),.isl 2 (mapE Vr.enc x.vs),e.enc] (.tup [int (rkK ts x.vs e),int (rkE ts x.vs e)]):=fun e he=>P_refKind ts x.vs e hts hx.vs (hx.rets e he)
 have kts:=Sch.closedI ts
 have kvs:=Vr.closedI x.vs
 have krs:=Ex.closedI x.rets
 have kks:=zx x.key
 have hrl:=hx.rl
 obtain ⟨R,hR⟩:∃ R,R=wC ts x:=⟨_,rfl⟩
 have hK:R=0→mapE int (w8 ts x)=mapE int (x.rets.map (rkK ts x.vs)):=fun h=>by rw [w8,← hR,if_neg (by simpa using h)]
 have hK2:R≠0→mapE int (w8 ts x)=[]:=fun h=>by rw [w8,← hR,if_pos h,zk];rfl
 rw [← hR]
 unfold wC uS at hR
 have h00:x.rets=[]↔x.rets.length=0:=by simp
 generalize mapE int (w8 ts x)=RK at *
 obtain ⟨pO,pA,pT,pV,pS,pN,pCo,pCa,pCv,pCf,pCk,pXk,pXn,pXt,he,hpe,kpA,kpC⟩:=Qy.form x
 rw [hpe] at p1 p4
 rw [he]
 generalize tpI ts x.vs x.pat=i1 at *
 generalize tpE ts x.vs x.pat=e1 at *
 generalize x.pat.rtI x.rets=i4 at *
 generalize x.pat.rtE x.rets=e4 at *
 generalize rkE ts x.vs=F at *
 generalize rkK ts x.vs=K at *
 generalize x.rets=rets at *
 have hrn:(mapE Ex.enc rets).length=rets.length:=zq ..
 have hnil:mapE int []=[]:=by rw [zk];rfl
 generalize mapE Sch.enc ts=ets at *
 generalize mapE Vr.enc x.vs=evs at *
 generalize hes:mapE Ex.enc rets=es at *
 generalize mapE int x.key=key at *
 generalize ba x.nm=nm at *
 clear he hpe hx hts
 refine zr ?_;unhygienic intros
 by_cases n1:e1=0
 rotate_left
 · have q1:iNe e1 0=true:=by simp only [ee];simpa using n1
   rw [if_pos n1] at hR
   subst hR
   rw [hK2 n1]
   refine fB T22 [.t 4,.t 5] ?_
   refine Aq ?_
   refine oPA p1 ?_
   have fz:=q1
   refine Cq ?_
   refine Aq ?_
   exact fE [.gone]
 have q1:iNe e1 0=false:=by simp only [ee];simpa using n1
 rw [if_neg (by simpa using n1)] at hR
 by_cases n2:rets=[]
 · have q2:iEq (lenA es) 0=true:=by simp only [ee];rw [hrn];simpa using n2
   rw [if_pos n2,if_pos (by decide)] at hR
   rw [hK2 (by omega),hR]
   refine fB T22 [.t 4,.t 5] ?_
   refine Aq ?_
   refine oPA p1 ?_
   have fz:=And.intro q1 q2
   refine Cq ?_
   refine Cr ?_
   refine Aq ?_
   exact fE [.gone]
 have q2:iEq (lenA es) 0=false:=by simp only [ee];rw [hrn];simpa using n2
 rw [if_neg n2] at hR
 by_cases n3:256<rets.length
 · have q3:iLt 256 (lenA es)=true:=by simp only [ee];simp;omega
   rw [if_pos n3,if_pos (by decide)] at hR
   rw [hK2 (by omega),hR]
   refine fB T22 [.t 4,.t 5] ?_
   refine Aq ?_
   refine oPA p1 ?_
   have fz:=And.intro q1 (And.intro q2 q3)
   refine Cq ?_
   refine Cr ?_
   refine Cr ?_
   refine Aq ?_
   exact fE [.gone]
 have q3:iLt 256 (lenA es)=false:=by simp only [ee];simp;omega
 rw [if_neg n3,if_neg (by simp)] at hR
 refine fB T22 [.t 4,.t 5] ?_
 refine Aq ?_
 refine oPA p1 ?_
 have fz:=And.intro q1 (And.intro q2 q3)
 refine Cq ?_
 refine Cr ?_
 refine Cr ?_
 refine Aq ?_
 refine zf (ι:=List Ex × List Ex × Int × Nat × List AV) (fun p=>([(9,int p.2.2.1),(8,.sl 1 1 0 p.2.2.2.1),(3,.ptr 0 0),(0,.isl 2 ets)],[.cells [str nm,.isl 2 evs,.isl 1 key,int pO,.isl 14 pA,int pT,int pV,int pS,int pN,int pCo,.isl 8 pCa,int pCv,int pCf,int pCk,int pXk,int pXn,str pXt,.isl 8 es],.arr 1 p.2.2.2.2])) (fun p=>rets=p.1++p.2.1∧p.2.2.1=p.1.length∧p.2.2.2.1=p.2.2.2.2.length∧p.2.2.2.2=mapE int (p.1.map K)∧zm F rets=zm F p.2.1) (fun p=>p.2.1.length) ([],rets,0,0,[]) ⟨rfl,rfl,rfl,hnil.symm,rfl⟩ ?_ ?_
 · exact (eS [.to 0] [some 0,none])
 rintro ⟨d,r,i,m,w⟩ ⟨g1,gi,gm,gw,gR⟩
 dsimp only at g1 gi gm gw gR ⊢
 have hcw:AV.closedL w=true:=by rw [gw];exact zU _
 cases r with
 | nil =>
  have L1:=zu g1
  try simp only [List.length] at L1
  have hc:iLt i (lenA es)=false:=yW e_iLt e_lenA (by omega)
  rw [List.append_nil] at g1
  rw [zm] at gR
  rw [gR,if_neg (by simp)] at hR
  have hfin:w=mapE int (rets.map K):=by rw [gw,g1]
  subst hR
  by_cases n4:R=0
  · have q4:iNe R 0=false:=by simp only [ee];simpa using n4
    rw [hK n4,← hfin]
    clear hK hK2
    subst n4
    have fz:=And.intro hc q4
    refine Cq ?_
    refine Aq ?_
    refine zo ?_
    refine Aq ?_
    refine oPA p4 ?_
    refine Cq ?_
    refine Aq ?_
    refine zR rfl rfl ?_
    exact ⟨[.gone,.isl 1 (w)],⟨trivial,⟨_,rfl,(zp _ hcw).symm⟩,trivial⟩,.tup' ⟨.of (yh rfl (by assumption)),.refl _,trivial⟩⟩
  have q4:iNe R 0=true:=by simp only [ee];simpa using n4
  rw [hK2 n4]
  have fz:=And.intro hc q4
  refine Cq ?_
  refine Aq ?_
  refine zo ?_
  refine Aq ?_
  refine oPA p4 ?_
  refine Cq ?_
  refine Aq ?_
  exact fE [.gone,.gone]
 | cons e r =>
  have L1:=zu g1
  try simp only [List.length] at L1
  have hc:iLt i (lenA es)=true:=yY e_iLt e_lenA (by omega)
  have hat:=zP e_atA hes g1 gi
  have hi2:iAdd .i64 i 1=((d++[e]).length:Int):=by rw [List.length_append];exact zJ e_iAdd gi (by omega)
  have hib:0≤i∧i<lenA es:=by simp only [ee];omega
  have hw2:catA (dropA w 0) (partA [int (K e)] 0 1)=mapE int ((d++[e]).map K):=by simp only [ee];rw [gw,zk,zk];simp
  have hcw2:AV.closedL (catA (dropA w 0) (partA [int (K e)] 0 1))=true:=by rw [hw2];exact zU _
  have hm2:addN m (lenN (partA [int (K e)] 0 1))=(catA (dropA w 0) (partA [int (K e)] 0 1)).length:=by simp only [ee];simp [gm]
  have pk:=hk e (by rw [g1];simp)
  have kec:=Ex.closed e
  rw [zm] at gR
  have hml:m=d.length:=by rw [gm,gw,zq];simp
  have hmb:m<1048577:=by omega
  generalize K e=ke at *
  generalize F e=fe at *
  obtain ⟨eO,eA,eV,eF,eK,eXk,eXn,eXt,hxe⟩:=Ex.form e
  rw [hxe] at hat pk kec
  clear hk hxe
  by_cases n4:fe=0
  · have q4:iNe fe 0=false:=by simp only [ee];simpa using n4
    rw [if_neg (by simpa using n4)] at gR
    clear hR
    have fz:=And.intro hc (And.intro hat q4)
    refine Cq ?_
    refine Cr ?_
    refine zb rfl (by conv=>lhs;cbv) rfl ?_
    refine tgC ?_
    refine oPT pk ?_
    refine tgA ?_
    refine zW ⟨rfl,by simp [za,zZ],?_⟩
    refine Cq ?_
    refine Aq ?_
    refine zw (d++[e],r,iAdd .i64 i 1,addN m (lenN (partA [int ke] 0 1)),catA (dropA w 0) (partA [int ke] 0 1)) ⟨by rw [g1];simp,hi2,hm2,hw2,gR⟩ (by simp) (eS [.to 0,.gone,.gone,.to 1] [some 0,some 3])
  have q4:iNe fe 0=true:=by simp only [ee];simpa using n4
  rw [if_pos n4] at gR
  rw [gR,if_pos n4] at hR
  subst hR
  rw [hK2 n4]
  have fz:=And.intro hc (And.intro hat q4)
  refine Cq ?_
  refine Cr ?_
  refine zb rfl (by conv=>lhs;cbv) rfl ?_
  refine tgC ?_
  refine oPT pk ?_
  refine tgA ?_
  refine zW ⟨rfl,by simp [za,zZ],?_⟩
  refine Cq ?_
  refine Aq ?_
  refine zl ?_
  refine Aq ?_
  exact fE [.gone,.gone]
end Go.Am
end
