/- Contracts of the program's functions. -/
import Derived.Test.YtpdmaimjllhooaaGreatDoorCards
import Derived.Test.YtpdmaimjllhooaaGreatDoorProg
import Derived.Test.YtpdmaimjllhooaaGreatDoorRows
import Derived.Test.YtpdmaimjllhooaaGreatDoorTie
import Derived.Test.YtpdmaimjllhooaaGreatDoorPCt5
import Derived.Test.YtpdmaimjllhooaaGreatDoorPCt18
section
set_option maxHeartbeats 16000000
set_option maxRecDepth 100000
namespace Go.Am
open Go.Proofs Go.ChangeShapes Go.WideShapes Go.ChangeAt Go.RowKit
theorem cellsF : Tryz.prog.cellsOf 106=2:=by kernel_rfl
theorem cellsS : Tryz.prog.cellsOf 60=2:=by kernel_rfl
theorem aggF : wM EE.P 106=true:=by kernel_rfl
theorem aggS : wM EE.P 60=true:=by kernel_rfl
theorem rdFld {n:Nat} {x:AV} (h:El EE.P (Cl EE.P n) 106 x):∃ f:Fld,x=f.enc:=by
 obtain ⟨cs,rfl,g⟩:=h.agg aggF
 obtain ⟨m,a,r,rfl,ha,b,r,rfl,hb,rfl⟩:=g.struct Tryz.underlying106
 obtain ⟨s,rfl,_⟩:=ha.str Tryz.underlying9
 obtain ⟨i2,rfl,_⟩:=hb.int Tryz.underlying3
 exact ⟨⟨s.data.toList,i2⟩,by rw [Fld.enc_eq];show _=AV.agg [str (ba s.data.toList),_];rw [← tR];rfl⟩
theorem rdSch {n:Nat} {x:AV} (h:El EE.P (Cl EE.P n) 60 x):∃ q:Sch,x=q.enc:=by
 obtain ⟨cs,rfl,g⟩:=h.agg aggS
 obtain ⟨m,a,r,rfl,ha,b,r,rfl,hb,rfl⟩:=g.struct Tryz.underlying60
 obtain ⟨s,rfl,_⟩:=ha.str Tryz.underlying9
 obtain ⟨m2,es,rfl,hl,hes⟩:=hb.slice Tryz.underlying58
 obtain ⟨l,rfl,_⟩:=wy (enc:=Fld.enc) (ok:=fun _=>True) fun x hx=>by
  obtain ⟨q,hq⟩:=rdFld (hes x hx)
  exact ⟨q,hq,trivial⟩
 exact ⟨⟨s.data.toList,l⟩,by rw [Sch.enc_eq];show _=AV.agg [str (ba s.data.toList),_];rw [← tR,cellsF];rfl⟩
theorem rdSchs {n:Nat} {x:AV} (h:El EE.P (Cl EE.P n) 22 x):∃ l:List Sch,x=.isl 2 (mapE Sch.enc l):=by
 obtain ⟨m,es,h,hl,he⟩:=(h.one (by kernel_rfl)).slice Tryz.underlying22
 obtain ⟨l,rfl,_⟩:=wy (enc:=Sch.enc) (ok:=fun _=>True) fun x hx=>by
  obtain ⟨e,hq⟩:=rdSch (he x hx)
  exact ⟨e,hq,trivial⟩
 exact ⟨l,by rw [cellsS] at h;simpa using h⟩
theorem str_bulk (s:Bs):s.length≤(str (ba s)).bulk:=by
 have:=vS s
 simp only [AV.bulk];omega
theorem uz {x:AV}:∀ {l:List AV},x∈l→x.bulk≤AV.bulkL l
 | y :: l,h=>by
  rw [AV.bulkL]
  rcases List.mem_cons.1 h with rfl | h
  · omega
  have:=uz h;omega
theorem vi : ∀ l:List AV,l.length≤AV.bulkL l
 | []=>by simp
 | x :: l=>by
  have:=vi l
  have:1≤x.bulk:=by
   cases x with
   | val v=>cases v<;>simp [AV.bulk]
   | _=>simp [AV.bulk]
  rw [AV.bulkL,List.length_cons];omega
theorem Sch.short_bulk {q:Sch} (h:q.enc.bulk≤1048576):q.Short:=by
 rw [Sch.enc_eq] at h
 have h1:=str_bulk q.nm
 have h2:=vi (mapE Fld.enc q.fs)
 rw [zr] at h2
 simp only [AV.bulk,AV.bulkL] at h h1
 refine ⟨by omega,by omega,fun f hf=>?_⟩
 have h3:=uz (x:=f.enc) (l:=mapE Fld.enc q.fs) (by rw [zn];exact List.mem_map.2 ⟨f,hf,rfl⟩)
 have h4:=str_bulk f.nm
 rw [Fld.enc_eq] at h3
 simp only [AV.bulk,AV.bulkL] at h3 h4
 omega
theorem Sch.list_bulk {l:List Sch} (h:(AV.isl 2 (mapE Sch.enc l)).bulk≤1048576):l.length<1048577∧∀ q∈l,q.Short:=by
 have h2:=vi (mapE Sch.enc l)
 rw [zr] at h2
 simp only [AV.bulk] at h
 refine ⟨by omega,fun q hq=>Sch.short_bulk ?_⟩
 have h3:=uz (x:=q.enc) (l:=mapE Sch.enc l) (by rw [zn];exact List.mem_map.2 ⟨q,hq,rfl⟩)
 omega
theorem Sch.ts_bulk {l:List Sch} (h:(AV.isl 2 (mapE Sch.enc l)).bulk≤1048576):x9 l where
 len:=(Sch.list_bulk h).1
 sh:=(Sch.list_bulk h).2
 fs:=fun q hq=>by
  simp only [AV.bulk] at h
  have h3:=uz (x:=q.enc) (l:=mapE Sch.enc l) (by rw [zn];exact List.mem_map.2 ⟨q,hq,rfl⟩)
  rw [Sch.enc_eq] at h3
  have h2:=vi (mapE Fld.enc q.fs)
  rw [zr] at h2
  simp only [AV.bulk,AV.bulkL] at h3
  omega
theorem cellsV : Tryz.prog.cellsOf 64=2:=by kernel_rfl
theorem cellsQ : Tryz.prog.cellsOf 41=18:=by kernel_rfl
theorem aggV : wM EE.P 64=true:=by kernel_rfl
theorem aggQ : wM EE.P 41=true:=by kernel_rfl
theorem aggG : wM EE.P 70=true:=by kernel_rfl
theorem rdVr {n:Nat} {x:AV} (h:El EE.P (Cl EE.P n) 64 x):∃ v:Vr,x=v.enc:=by
 obtain ⟨cs,rfl,g⟩:=h.agg aggV
 obtain ⟨m,a,r,rfl,ha,b,r,rfl,hb,rfl⟩:=g.struct Tryz.underlying64
 obtain ⟨s,rfl,_⟩:=ha.str Tryz.underlying9
 obtain ⟨i2,rfl,_⟩:=hb.int Tryz.underlying3
 exact ⟨⟨s.data.toList,i2⟩,by rw [Vr.enc_eq];show _=AV.agg [str (ba s.data.toList),_];rw [← tR];rfl⟩
theorem rdQy {n:Nat} {x:AV} (h:El EE.P (Cl EE.P n) 41 x):∃ q:Qy,x=q.enc:=by
 obtain ⟨cs,rfl,g⟩:=h.agg aggQ
 obtain ⟨m,a,r,rfl,ha,b,r,rfl,hb,c,r,rfl,hc,d,r,rfl,hd,e,r,rfl,he,rfl⟩:=g.struct Tryz.underlying41
 obtain ⟨s,rfl,_⟩:=ha.str Tryz.underlying9
 obtain ⟨m2,es,rfl,_,hes⟩:=hb.slice Tryz.underlying23
 obtain ⟨vs,rfl,_⟩:=wy (enc:=Vr.enc) (ok:=fun _=>True) fun x hx=>by
  obtain ⟨q,hq⟩:=rdVr (hes x hx)
  exact ⟨q,hq,trivial⟩
 obtain ⟨m3,ks,rfl,_,hks⟩:=hc.slice Tryz.underlying36
 obtain ⟨key,rfl,_⟩:=wy (enc:=int) (ok:=fun _=>True) fun x hx=>by
  obtain ⟨i,hi⟩:=rdInt (hks x hx)
  exact ⟨i,hi,trivial⟩
 obtain ⟨p,hp⟩:=rdPat _ (.agg d) (Nat.le_refl _) m (by unfold El;rw [aggP];exact ⟨d,rfl,hd⟩)
 obtain ⟨m4,rs,rfl,_,hrs⟩:=he.slice Tryz.underlying24
 obtain ⟨rets,rfl,_⟩:=wy (enc:=Ex.enc) (ok:=fun _=>True) fun x hx=>by
  obtain ⟨q,hq⟩:=rdEx _ x (Nat.le_refl _) _ (hrs x hx)
  exact ⟨q,hq,trivial⟩
 refine ⟨⟨s.data.toList,vs,key,p,rets⟩,?_⟩
 rw [Qy.enc_eq]
 show _=AV.agg ([str (ba s.data.toList),.isl 2 (mapE Vr.enc vs),.isl 1 (mapE int key)]++p.enc.cells++[.isl 8 (mapE Ex.enc rets)])
 rw [← tR,← hp,cellsV,cellsE,show Tryz.prog.cellsOf 3=1 from by kernel_rfl]
 simp [AV.cells]
theorem rdPg {n:Nat} {x:AV} (h:El EE.P (Cl EE.P n) 70 x):∃ (ts:List Sch) (qs:List Qy),x=.agg [.isl 2 (mapE Sch.enc ts),.isl 18 (mapE Qy.enc qs)]:=by
 obtain ⟨cs,rfl,g⟩:=h.agg aggG
 obtain ⟨m,a,r,rfl,ha,b,r,rfl,hb,rfl⟩:=g.struct Tryz.underlying70
 obtain ⟨m2,es,rfl,_,hes⟩:=ha.slice Tryz.underlying22
 obtain ⟨ts,rfl,_⟩:=wy (enc:=Sch.enc) (ok:=fun _=>True) fun x hx=>by
  obtain ⟨q,hq⟩:=rdSch (hes x hx)
  exact ⟨q,hq,trivial⟩
 obtain ⟨m3,fs,rfl,_,hfs⟩:=hb.slice Tryz.underlying68
 obtain ⟨qs,rfl,_⟩:=wy (enc:=Qy.enc) (ok:=fun _=>True) fun x hx=>by
  obtain ⟨q,hq⟩:=rdQy (hfs x hx)
  exact ⟨q,hq,trivial⟩
 exact ⟨ts,qs,by rw [cellsS,cellsQ];rfl⟩
theorem Vr.list_bulk {l:List Vr} (h:(AV.isl 2 (mapE Vr.enc l)).bulk≤1048576):l.length<1048577∧∀ v∈l,v.nm.length<1048577:=by
 have h2:=vi (mapE Vr.enc l)
 rw [zr] at h2
 simp only [AV.bulk] at h
 refine ⟨by omega,fun v hv=>?_⟩
 have h3:=uz (x:=v.enc) (l:=mapE Vr.enc l) (by rw [zn];exact List.mem_map.2 ⟨v,hv,rfl⟩)
 have h4:=str_bulk v.nm
 rw [Vr.enc_eq] at h3
 simp only [AV.bulk,AV.bulkL] at h3 h4
 omega
theorem q_bulk {N:Nat} (a b c d e f t2:AV) (o t v s n co cv cf ck xk xn:Int) (h:(AV.agg [a,b,c,int o,d,int t,int v,int s,int n,int co,e,int cv,int cf,int ck,int xk,int xn,t2,f]).bulk≤N) :
 a.bulk≤N∧b.bulk≤N∧c.bulk+10≤N∧f.bulk≤N∧(AV.agg [int o,d,int t,int v,int s,int n,int co,e,int cv,int cf,int ck,int xk,int xn,t2]).bulk≤N:=by
 simp only [AV.bulk,AV.bulkL] at h ⊢
 omega
theorem Qy.ok_of {x:Qy} (h:x.enc.bulk≤1048576):x.Ok∧x.key.length<1048576:=by
 obtain ⟨pO,pA,pT,pV,pS,pN,pCo,pCa,pCv,pCf,pCk,pXk,pXn,pXt,he,hpe,kpA,kpC⟩:=Qy.form x
 rw [he] at h
 obtain ⟨h1,h2,h3,h4,h5⟩:=q_bulk _ _ _ _ _ _ _ _ _ _ _ _ _ _ _ _ _ _ h
 rw [← hpe] at h5
 have hs:=str_bulk x.nm
 have hk:=vi (mapE int x.key)
 rw [zr] at hk
 have hv:=Vr.list_bulk h2
 have hr:=Ex.list_sm h4
 have hk3:(AV.isl 1 (mapE int x.key)).bulk=1+AV.bulkL (mapE int x.key)∨(AV.isl 1 (mapE int x.key)).bulk=AV.bulkL (mapE int x.key)∨(AV.isl 1 (mapE int x.key)).bulk=AV.bulkL (mapE int x.key)+1:=by
  simp only [AV.bulk];omega
 clear he h hpe
 exact ⟨⟨hv.1,hv.2,by omega,Pat.sm_of h5,hr.1,hr.2,by omega⟩,by omega⟩
theorem Qy.list_ok {l:List Qy} (h:(AV.isl 18 (mapE Qy.enc l)).bulk≤1048576):l.length≤1048576∧∀ x∈l,x.Ok:=by
 have h2:=vi (mapE Qy.enc l)
 rw [zr] at h2
 simp only [AV.bulk] at h
 refine ⟨by omega,fun x hx=>(Qy.ok_of ?_).1⟩
 have h3:=uz (x:=x.enc) (l:=mapE Qy.enc l) (by rw [zn];exact List.mem_map.2 ⟨x,hx,rfl⟩)
 omega
theorem g_bulk {N:Nat} {a b:AV} (h:(AV.agg [a,b]).bulk≤N):a.bulk≤N∧b.bulk≤N:=by
 simp only [AV.bulk,AV.bulkL] at h;omega
theorem globL {laid:List (String × DataW Unit)} (hm:("tidegate/pattern.shapes",Proofs.YtpdmaimjllhooaaGreatDoor.Rows.laid_tidegate_pattern_shapes)∈laid) (hm2:("tidegate/scope.table",Proofs.YtpdmaimjllhooaaGreatDoor.Rows.laid_tidegate_scope_table)∈laid) {W:World} (h:laidMet Tryz.prog laid W) (hsh:W.ShapedOpen Tryz.prog) :
 ∀ g,VRep ⟨fun _=>none,fun b=>b<W.heap.size⟩ 0 W (EL.G g) (.pointer (some ⟨g,0,none⟩)):=by
 intro g
 have hE:=glob_of_laid hm hm2 h g
 show VRep _ 0 W (cond (Nat.beq g 2) (.iptr [.intq]) (EE.G g)) _
 cases hb:Nat.beq g 2 with
 | false=>exact hE
 | true =>
  obtain rfl:=Nat.eq_of_beq_eq_true hb
  obtain ⟨m,hm⟩:=cell_of_shapedOpen_int (P:=Tryz.prog) (g:=2) (t:=3) (zero:=#[.int .i64 0]) hsh (of_decide_eq_true (by kernel_rfl)) (by kernel_rfl) rfl (by kernel_rfl) (by kernel_rfl) Tryz.underlying3
  refine .iptr _ (fun _=>.int .i64 m) 2 0 ?_ (fun j c hj=>?_) (fun j c hj=>?_)
  · unfold World.cell? at hm
    cases hg:W.heap[2]? with
    | none=>simp only [hg] at hm;cases hm
    | some o=>exact (Array.getElem?_eq_some_iff.1 hg).1
  · cases j with
    | zero=>exact hm
    | succ j=>cases hj
  cases j with
  | zero=>cases hj;exact .intq m
  | succ j=>cases hj
end Go.Am
end
section
set_option maxHeartbeats 16000000
set_option maxRecDepth 100000
namespace Go.Am
open Go.Proofs
theorem fit_S (l:List Sch):ww 2 (mapE Sch.enc l)=true:=by
 rw [zn,ww,List.all_map,List.all_eq_true]
 intro f _
 rw [Function.comp_apply,Sch.enc_eq];rfl
theorem fit_V (l:List Vr):ww 2 (mapE Vr.enc l)=true:=by
 rw [zn,ww,List.all_map,List.all_eq_true]
 intro f _
 rw [Function.comp_apply,Vr.enc_eq];rfl
theorem fit_I (l:List Int):ww 1 (mapE int l)=true:=by
 rw [zn,ww,List.all_map,List.all_eq_true]
 intro f _
 rw [Function.comp_apply];rfl
theorem fit_Q (l:List Qy):ww 18 (mapE Qy.enc l)=true:=by
 rw [zn,ww,List.all_map,List.all_eq_true]
 intro x _
 obtain ⟨pO,pA,pT,pV,pS,pN,pCo,pCa,pCv,pCf,pCk,pXk,pXn,pXt,he,hpe,kpA,kpC⟩:=Qy.form x
 rw [Function.comp_apply,he];rfl
theorem O_CloneS (es:List AV) (n:Nat) (hn:n=es.length) (hl:es.length≤1048576) (kcL:AV.closedL es=true) (kft:ww 2 es=true):OCall EE 29 [.isl 2 es] (.sl 0 2 0 n) [.arr 2 es]:=by
 refine zt ?_;unhygienic intros
 refine oB T29 [.t 2] ?_
 have ke1:addN 0 (lenN es)=n:=by simp only [ee];omega
 have ke2:catA (dropA [] 0) es=es:=by simp only [ee];rfl
 refine Aq ?_
 refine on_eqnilI rfl rfl rfl rfl (fun t ht=>?_)
 cases t with
 | true =>
  have he:=ht rfl
  subst he
  have hn0:n=0:=hn
  subst hn0
  refine Aq ?_
  refine yL (F2:=[(2,.sl 0 2 0 0)]) (H2:=[.arr 2 []]) ?_ rfl ⟨rfl,rfl⟩
  exact (eS [] [none])
 | false =>
  refine Aq ?_
  (rw [ke1,ke2];exact yL (F2:=[(2,.sl 0 2 0 n)]) (H2:=[.arr 2 es]) (eS [.gone,.to 0] [some 1]) rfl ⟨rfl,rfl⟩)
theorem O_CloneI (es:List AV) (n:Nat) (hn:n=es.length) (hl:es.length≤1048576) (kcL:AV.closedL es=true) (kft:ww 1 es=true):OCall EE 33 [.isl 1 es] (.sl 0 1 0 n) [.arr 1 es]:=by
 refine zt ?_;unhygienic intros
 refine oB T33 [.t 2] ?_
 have ke1:addN 0 (lenN es)=n:=by simp only [ee];omega
 have ke2:catA (dropA [] 0) es=es:=by simp only [ee];rfl
 refine Aq ?_
 refine on_eqnilI rfl rfl rfl rfl (fun t ht=>?_)
 cases t with
 | true =>
  have he:=ht rfl
  subst he
  have hn0:n=0:=hn
  subst hn0
  refine Aq ?_
  refine yL (F2:=[(2,.sl 0 1 0 0)]) (H2:=[.arr 1 []]) ?_ rfl ⟨rfl,rfl⟩
  exact (eS [] [none])
 | false =>
  refine Aq ?_
  (rw [ke1,ke2];exact yL (F2:=[(2,.sl 0 1 0 n)]) (H2:=[.arr 1 es]) (eS [.gone,.to 0] [some 1]) rfl ⟨rfl,rfl⟩)
theorem O_CloneV (es:List AV) (n:Nat) (hn:n=es.length) (hl:es.length≤1048576) (kcL:AV.closedL es=true) (kft:ww 2 es=true):OCall EE 34 [.isl 2 es] (.sl 0 2 0 n) [.arr 2 es]:=by
 refine zt ?_;unhygienic intros
 refine oB T34 [.t 2] ?_
 have ke1:addN 0 (lenN es)=n:=by simp only [ee];omega
 have ke2:catA (dropA [] 0) es=es:=by simp only [ee];rfl
 refine Aq ?_
 refine on_eqnilI rfl rfl rfl rfl (fun t ht=>?_)
 cases t with
 | true =>
  have he:=ht rfl
  subst he
  have hn0:n=0:=hn
  subst hn0
  refine Aq ?_
  refine yL (F2:=[(2,.sl 0 2 0 0)]) (H2:=[.arr 2 []]) ?_ rfl ⟨rfl,rfl⟩
  exact (eS [] [none])
 | false =>
  refine Aq ?_
  (rw [ke1,ke2];exact yL (F2:=[(2,.sl 0 2 0 n)]) (H2:=[.arr 2 es]) (eS [.gone,.to 0] [some 1]) rfl ⟨rfl,rfl⟩)
theorem O_CloneQ (es:List AV) (n:Nat) (hn:n=es.length) (hl:es.length≤1048576) (kcL:AV.closedL es=true) (kft:ww 18 es=true):OCall EE 38 [.isl 18 es] (.sl 0 18 0 n) [.arr 18 es]:=by
 refine zt ?_;unhygienic intros
 refine oB T38 [.t 2] ?_
 have ke1:addN 0 (lenN es)=n:=by simp only [ee];omega
 have ke2:catA (dropA [] 0) es=es:=by simp only [ee];rfl
 refine Aq ?_
 refine on_eqnilI rfl rfl rfl rfl (fun t ht=>?_)
 cases t with
 | true =>
  have he:=ht rfl
  subst he
  have hn0:n=0:=hn
  subst hn0
  refine Aq ?_
  refine yL (F2:=[(2,.sl 0 18 0 0)]) (H2:=[.arr 18 []]) ?_ rfl ⟨rfl,rfl⟩
  exact (eS [] [none])
 | false =>
  refine Aq ?_
  (rw [ke1,ke2];exact yL (F2:=[(2,.sl 0 18 0 n)]) (H2:=[.arr 18 es]) (eS [.gone,.to 0] [some 1]) rfl ⟨rfl,rfl⟩)
theorem enters_slices_Reverse___api_Query_api_Query_ : yz EE.P 39:=enters_of rfl (by decide) T39.2
theorem two_ends {α:Type}:∀ m:List α,m.length<2∨∃ x m' y,m=x :: (m'++[y])
 | []=>.inl (by simp)
 | [_]=>.inl (by simp)
 | x :: z :: r=>.inr ⟨x,(z :: r).dropLast,(z :: r).getLast (by simp),by rw [List.dropLast_concat_getLast]⟩
theorem C_Reverse (l:List Qy) (n:Nat) (hn:n=l.length) (hl:l.length<1152921504606846976) :
 ACall EE 39 [.sl 0 18 0 n] [.arr 18 (mapE Qy.enc l)] fun v H'=>v=.tup []∧H'=[.arr 18 (mapE Qy.enc l.reverse)]:=by
 refine zt ?_;unhygienic intros
 have kn:iOf n=(l.length:Int):=by simp only [ee];rw [hn]
 have hm1:iSub .i64 (iOf n) 1=(l.length:Int) - 1:=by
  rw [kn,e_iSub];exact wrap64 (by omega) (by omega)
 obtain ⟨j0,hj0⟩:∃ j0:Int,j0=iSub .i64 (iOf n) 1:=⟨_,rfl⟩
 obtain ⟨L0,hL0⟩:∃ L0,L0=mapE Qy.enc l:=⟨_,rfl⟩
 rw [← hL0]
 refine rB T39 [] ?_
 refine Aq ?_
 refine za (ι:=List Qy × List Qy × List Qy × Int × Int × List AV) (fun p=>([(3,int p.2.2.2.2.1),(2,int p.2.2.2.1),(0,.sl 0 18 0 n)],[.arr 18 p.2.2.2.2.2])) (fun p=>l=p.1++(p.2.1++p.2.2.1)∧p.1.length=p.2.2.1.length∧p.2.2.2.1=p.1.length∧p.2.2.2.2.1=(p.1.length:Int)+p.2.1.length - 1∧p.2.2.2.2.2=mapE Qy.enc (p.2.2.1.reverse++(p.2.1++p.1.reverse))) (fun p=>p.2.1.length) ([],l,[],0,iSub .i64 (iOf n) 1,L0) ⟨by simp,rfl,rfl,by rw [hm1];simp,by rw [hL0];simp⟩ ?_ ?_
 · exact xm ⟨.refl _,.refl _,.refl _,trivial⟩
 rintro ⟨a,m,b,i,j,L⟩ ⟨g1,g2,gi,gj,gL⟩
 dsimp only at g1 g2 gi gj gL ⊢
 have L1:=congrArg List.length g1
 simp only [List.length_append] at L1
 rcases two_ends m with h | ⟨x,m',y,rfl⟩
 · have hc:iLt i j=false:=by simp only [ee];simp;omega
   have e1:mapE Qy.enc l.reverse=L:=by
    rw [gL,g1]
    have:m.reverse=m:=by
     match m,h with
     | [],_=>rfl
     | [_],_=>rfl
     | _ :: _ :: _,h=>exact absurd h (by simp)
    rw [List.reverse_append,List.reverse_append,this,List.append_assoc]
   rw [e1]
   have fz:=hc
   refine Cq ?_
   refine Aq ?_
   refine zl ?_
   refine Aq ?_
   exact o_norm (.refl _ _ _ _ _) rfl ⟨rfl,rfl⟩
 simp only [List.length_cons,List.length_append,List.length_nil] at gj L1
 have hc:iLt i j=true:=by simp only [ee];simp;omega
 have hi2:iAdd .i64 i 1=((a.length+1:Nat):Int):=yq e_iAdd gi (by omega)
 have hj2:iSub .i64 j 1=(a.length:Int)+m'.length:=by
  rw [e_iSub];show IntKind.i64.wrap _=_;rw [wrap64 (by omega) (by omega)];omega
 have kxi:idxN 0 i=a.length:=by simp only [ee];rw [gi];simp
 have kxj:idxN 0 j=a.length+1+m'.length:=by simp only [ee];rw [gj];omega
 obtain ⟨p,hp⟩:∃ p,p=a.length:=⟨_,rfl⟩
 obtain ⟨q,hq⟩:∃ q,q=a.length+1+m'.length:=⟨_,rfl⟩
 rw [← hp] at kxi
 rw [← hq] at kxj
 have hb0:p=(mapE Qy.enc b.reverse).length:=by rw [zr,hp,g2];simp
 have eL:L=mapE Qy.enc b.reverse++(x.enc :: (mapE Qy.enc m'++(y.enc :: mapE Qy.enc a.reverse))):=by
  rw [gL];simp [zn]
 have ha1:atN L p=x.enc:=by simp only [ee];rw [eL,hb0];simp
 have hml:(mapE Qy.enc m').length=m'.length:=zr _ _
 have hq2:q=(mapE Qy.enc b.reverse++(x.enc :: mapE Qy.enc m')).length:=by rw [List.length_append,← hb0,List.length_cons,hml,hq,hp];omega
 have eL2:L=(mapE Qy.enc b.reverse++(x.enc :: mapE Qy.enc m'))++(y.enc :: mapE Qy.enc a.reverse):=by rw [eL];simp
 have ha2:atN L q=y.enc:=by simp only [ee];rw [eL2,hq2];simp
 have hs1:setA L p y.enc=mapE Qy.enc b.reverse++(y.enc :: (mapE Qy.enc m'++(y.enc :: mapE Qy.enc a.reverse))):=by simp only [ee];rw [eL,hb0];simp
 have hs2:setA (setA L p y.enc) q x.enc=mapE Qy.enc ((y :: b).reverse++(m'++(a++[x]).reverse)):=by
  rw [hs1,show mapE Qy.enc b.reverse++(y.enc :: (mapE Qy.enc m'++(y.enc :: mapE Qy.enc a.reverse)))=(mapE Qy.enc b.reverse++(y.enc :: mapE Qy.enc m'))++(y.enc :: mapE Qy.enc a.reverse) by simp]
  have:q=(mapE Qy.enc b.reverse++(y.enc :: mapE Qy.enc m')).length:=by rw [hq2];simp
  simp only [ee]
  rw [this]
  simp [zn]
 have hln:L.length=n:=by rw [gL,zr,hn,g1];simp;omega
 have hpl:p<L.length:=by omega
 have hql:q<L.length:=by omega
 have hpl2:q<(setA L p y.enc).length:=by simp only [ee];rw [List.length_set];exact hql
 have hib:i<iOf n:=by rw [kn];omega
 have hjb:j<iOf n:=by rw [kn];omega
 have hi0:0≤i:=by omega
 have hj0':0≤j:=by omega
 obtain ⟨xO,xA,xT,xV,xS,xN,xCo,xCa,xCv,xCf,xCk,xXk,xXn,xXt,hex,hpx,kAx,kCx⟩:=Qy.form x
 obtain ⟨yO,yA,yT,yV,yS,yN,yCo,yCa,yCv,yCf,yCk,yXk,yXn,yXt,hey,hpy,kAy,kCy⟩:=Qy.form y
 rw [hex] at ha1
 rw [hey] at ha2 hpl2
 rw [hex,hey] at hs2
 clear hex hey hpx hpy
 generalize ba x.nm=xnm at *
 generalize ba y.nm=ynm at *
 generalize mapE Vr.enc x.vs=xvs at *
 generalize mapE Vr.enc y.vs=yvs at *
 generalize mapE int x.key=xks at *
 generalize mapE int y.key=yks at *
 generalize mapE Ex.enc x.rets=xrs at *
 generalize mapE Ex.enc y.rets=yrs at *
 clear hs1 eL eL2
 have fz:=hc
 refine Cq ?_
 have fz:=And.intro hc (And.intro kxi (And.intro kxj (And.intro ha1 ha2)))
 refine Cr ?_
 refine zP rfl (by conv=>lhs;cbv) rfl ?_
 have fz:=And.intro kxi (And.intro kxj (And.intro ha1 ha2))
 refine tgC ?_
 refine zH ⟨rfl,?_,?_⟩
 · simp only [zK,zV,List.append_nil];and_intros<;>first | trivial | (intro hp;first | rfl | exact absurd (show false=true from hp) Bool.false_ne_true)
 refine Aq ?_
 exact zp (a++[x],m',y :: b,iAdd .i64 i 1,iSub .i64 j 1,setA (setA L p (.agg [str ynm,.isl 2 yvs,.isl 1 yks,int yO,.isl 14 yA,int yT,int yV,int yS,int yN,int yCo,.isl 8 yCa,int yCv,int yCf,int yCk,int yXk,int yXn,str yXt,.isl 8 yrs])) q (.agg [str xnm,.isl 2 xvs,.isl 1 xks,int xO,.isl 14 xA,int xT,int xV,int xS,int xN,int xCo,.isl 8 xCa,int xCv,int xCf,int xCk,int xXk,int xXn,str xXt,.isl 8 xrs])) ⟨by rw [g1];simp,by simp [g2],by rw [hi2];simp,by rw [hj2];simp;omega,hs2⟩ (by simp;omega) (xm ⟨.refl _,.refl _,.refl _,trivial⟩)
theorem P_IndexFuncV (g:FuncId) (cs:List AV) (hcs:AV.closedL cs=true) (f:Int→Bool) (l:List Vr) (hl:l.length<1048577) (hg:∀ x∈l,PCall EE g ([x.enc]++cs) (bool (f x.ty))):PCall EE 85 [.isl 2 (mapE Vr.enc l),.fn g cs] (int (uk f (l.map Vr.ty) 0)):=by
 obtain ⟨j,hj⟩:∃ j,j=uk f (l.map Vr.ty) 0:=⟨_,rfl⟩
 rw [← hj]
 have hcl:=Vr.closedI l
 have hfn:(AV.fn g cs).closed=true:=by simp [AV.closed,hcs]
 refine zt ?_;unhygienic intros
 generalize hes:mapE Vr.enc l=es at *
 have hel:es.length=l.length:=by rw [← hes,zr]
 refine fB T85 [.t 4] ?_
 refine Aq ?_
 refine za (ι:=List Vr × List Vr × Int) (fun p=>([(8,int p.2.2),(7,int (lenA es)),(0,.isl 2 es),(1,.fn g cs)],[])) (fun p=>l=p.1++p.2.1∧p.2.2=p.1.length∧j=uk f (p.2.1.map Vr.ty) p.2.2) (fun p=>p.2.1.length) ([],l,0) ⟨rfl,rfl,hj⟩ ?_ ?_
 · exact (eS [] [])
 rintro ⟨d,r,i⟩ ⟨g1,gi,gv⟩
 dsimp only at g1 gi gv ⊢
 cases r with
 | nil =>
  have L1:=zw g1
  try simp only [List.length] at L1
  have hc:iLt i (lenA es)=false:=xg e_iLt e_lenA (by omega)
  rw [List.map_nil,uk] at gv
  have fz:=hc
  refine Cq ?_
  refine Aq ?_
  refine zl ?_
  refine Aq ?_
  exact fI (h:=gv.symm)
 | cons q r =>
  have L1:=zw g1
  try simp only [List.length] at L1
  have hc:iLt i (lenA es)=true:=xf e_iLt e_lenA (by omega)
  have hat:=z7 e_atA hes g1 gi
  have hq:=hg q (by rw [g1];simp)
  have hi2:iAdd .i64 i 1=((d++[q]).length:Int):=by rw [List.length_append];exact yq e_iAdd gi (by omega)
  rw [Vr.enc_eq] at hat hq
  rw [List.map_cons] at gv
  generalize q.ty=qt at *
  generalize ba q.nm=qn at *
  rw [uk] at gv
  cases hfq:f qt with
  | true =>
   rw [hfq] at hq gv
   rw [if_pos rfl] at gv
   have fz:=And.intro hc hat
   refine Cq ?_
   refine Cr ?_
   refine yI (args:=[.agg [str qn,int qt]]++cs) rfl rfl rfl rfl hq (by simp [AV.closedL,y6,xD,hcs]) ?_
   refine Cq ?_
   refine Aq ?_
   refine zi ?_
   refine Aq ?_
   exact fI (h:=gv.symm)
  | false =>
   rw [hfq] at hq gv
   rw [if_neg (by decide)] at gv
   have gv2:j=uk f (r.map Vr.ty) (iAdd .i64 i 1):=by rw [gv,hi2,gi];simp
   have fz:=And.intro hc hat
   refine Cq ?_
   refine Cr ?_
   refine yI (args:=[.agg [str qn,int qt]]++cs) rfl rfl rfl rfl hq (by simp [AV.closedL,y6,xD,hcs]) ?_
   refine Cq ?_
   refine Aq ?_
   refine zp (d++[q],r,iAdd .i64 i 1) ⟨by simp [g1],hi2,gv2⟩ (by simp) (eS [] [])
theorem P_ContainsFuncV (g:FuncId) (cs:List AV) (hcs:AV.closedL cs=true) (f:Int→Bool) (l:List Vr) (hl:l.length<1048577) (hg:∀ x∈l,PCall EE g ([x.enc]++cs) (bool (f x.ty))):PCall EE 31 [.isl 2 (mapE Vr.enc l),.fn g cs] (bool ((l.map Vr.ty).any f)):=by
 have h1:=P_IndexFuncV g cs hcs f l hl hg
 have hj:=idxW_any f (l.map Vr.ty) 0 (by omega)
 generalize uk f (l.map Vr.ty) 0=j at *
 have hcl:=Vr.closedI l
 have hfn:(AV.fn g cs).closed=true:=by simp [AV.closed,hcs]
 obtain ⟨R,hR⟩:∃ R,R=(l.map Vr.ty).any f:=⟨_,rfl⟩
 rw [← hR] at hj ⊢
 refine zt ?_;unhygienic intros
 generalize mapE Vr.enc l=es at *
 refine fB T31 [.t 4] ?_
 have hRe:iLe 0 j=R:=by simp only [ee];rw [Bool.eq_iff_iff];simp [hj]
 refine Aq ?_
 refine oPA h1 ?_
 refine Aq ?_
 exact fBo (h:=hRe)
theorem P_Extends1 (v:Vr) (ts:List Sch):PCall EE 32 ([v.enc]++[.iptr [.isl 2 (mapE Sch.enc ts)]]) (bool (decide (v.ty=ts.length))):=by
 have kts:=Sch.closedI ts
 have hel:(mapE Sch.enc ts).length=ts.length:=zr ..
 obtain ⟨R,hR⟩:∃ R,R=decide (v.ty=ts.length):=⟨_,rfl⟩
 rw [← hR,Vr.enc_eq]
 generalize mapE Sch.enc ts=ets at *
 generalize v.ty=ty at *
 generalize ba v.nm=nm at *
 refine zt ?_;unhygienic intros
 have hRe:iEq ty (lenA ets)=R:=by simp only [ee];rw [hR,Bool.eq_iff_iff];simp [hel]
 refine fB T32 [.t 3] ?_
 refine Aq ?_
 exact fBo (h:=hRe)
end Go.Am
end
