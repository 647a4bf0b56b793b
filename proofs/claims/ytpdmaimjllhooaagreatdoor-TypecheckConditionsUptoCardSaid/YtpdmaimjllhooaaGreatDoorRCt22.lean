import Derived.Test.YtpdmaimjllhooaaGreatDoorRCt19
section
set_option maxHeartbeats 16000000
set_option maxRecDepth 100000
namespace Go.Am
open Go.Proofs Go.ChangeShapes Go.WideShapes Go.ChangeAt Go.RowKit
theorem cellsF : Tryz.prog.cellsOf 106=2:=by kernel_rfl
theorem cellsS : Tryz.prog.cellsOf 60=2:=by kernel_rfl
theorem aggF : wS EE.P 106=true:=by kernel_rfl
theorem aggS : wS EE.P 60=true:=by kernel_rfl
theorem rdFld {n:Nat} {x:AV} (h:El EE.P (Cl EE.P n) 106 x):∃ f:Fld,x=f.enc:=by
 obtain ⟨cs,rfl,g⟩:=h.agg aggF
 obtain ⟨m,a,r,rfl,ha,b,r,rfl,hb,rfl⟩:=g.struct Tryz.underlying106
 obtain ⟨s,rfl,_⟩:=ha.str Tryz.underlying9
 obtain ⟨i2,rfl,_⟩:=hb.int Tryz.underlying3
 exact ⟨⟨s.data.toList,i2⟩,by rw [Fld.enc_eq];show _=AV.agg [str (ba s.data.toList),_];rw [← tL];rfl⟩
theorem rdSch {n:Nat} {x:AV} (h:El EE.P (Cl EE.P n) 60 x):∃ q:Sch,x=q.enc:=by
 obtain ⟨cs,rfl,g⟩:=h.agg aggS
 obtain ⟨m,a,r,rfl,ha,b,r,rfl,hb,rfl⟩:=g.struct Tryz.underlying60
 obtain ⟨s,rfl,_⟩:=ha.str Tryz.underlying9
 obtain ⟨m2,es,rfl,hl,hes⟩:=hb.slice Tryz.underlying58
 obtain ⟨l,rfl,_⟩:=xN (enc:=Fld.enc) (ok:=fun _=>True) fun x hx=>by
  obtain ⟨q,hq⟩:=rdFld (hes x hx)
  exact ⟨q,hq,trivial⟩
 exact ⟨⟨s.data.toList,l⟩,by rw [Sch.enc_eq];show _=AV.agg [str (ba s.data.toList),_];rw [← tL,cellsF];rfl⟩
theorem rdSchs {n:Nat} {x:AV} (h:El EE.P (Cl EE.P n) 22 x):∃ l:List Sch,x=.isl 2 (mapE Sch.enc l):=by
 obtain ⟨m,es,h,hl,he⟩:=(h.one (by kernel_rfl)).slice Tryz.underlying22
 obtain ⟨l,rfl,_⟩:=xN (enc:=Sch.enc) (ok:=fun _=>True) fun x hx=>by
  obtain ⟨e,hq⟩:=rdSch (he x hx)
  exact ⟨e,hq,trivial⟩
 exact ⟨l,by rw [cellsS] at h;simpa using h⟩
theorem str_bulk (s:Bs):s.length≤(str (ba s)).bulk:=by
 have:=wU s
 simp only [AV.bulk];omega
theorem v7 {x:AV}:∀ {l:List AV},x∈l→x.bulk≤AV.bulkL l
 | y :: l,h=>by
  rw [AV.bulkL]
  rcases List.mem_cons.1 h with rfl | h
  · omega
  have:=v7 h;omega
theorem vo : ∀ l:List AV,l.length≤AV.bulkL l
 | []=>by simp
 | x :: l=>by
  have:=vo l
  have:1≤x.bulk:=by
   cases x with
   | val v=>cases v<;>simp [AV.bulk]
   | _=>simp [AV.bulk]
  rw [AV.bulkL,List.length_cons];omega
theorem Sch.short_bulk {q:Sch} (h:q.enc.bulk≤1048576):q.Short:=by
 rw [Sch.enc_eq] at h
 have h1:=str_bulk q.nm
 have h2:=vo (mapE Fld.enc q.fs)
 rw [zq] at h2
 simp only [AV.bulk,AV.bulkL] at h h1
 refine ⟨by omega,by omega,fun f hf=>?_⟩
 have h3:=v7 (x:=f.enc) (l:=mapE Fld.enc q.fs) (by rw [zk];exact List.mem_map.2 ⟨f,hf,rfl⟩)
 have h4:=str_bulk f.nm
 rw [Fld.enc_eq] at h3
 simp only [AV.bulk,AV.bulkL] at h3 h4
 omega
theorem Sch.list_bulk {l:List Sch} (h:(AV.isl 2 (mapE Sch.enc l)).bulk≤1048576):l.length<1048577∧∀ q∈l,q.Short:=by
 have h2:=vo (mapE Sch.enc l)
 rw [zq] at h2
 simp only [AV.bulk] at h
 refine ⟨by omega,fun q hq=>Sch.short_bulk ?_⟩
 have h3:=v7 (x:=q.enc) (l:=mapE Sch.enc l) (by rw [zk];exact List.mem_map.2 ⟨q,hq,rfl⟩)
 omega
theorem Sch.ts_bulk {l:List Sch} (h:(AV.isl 2 (mapE Sch.enc l)).bulk≤1048576):xW l where
 len:=(Sch.list_bulk h).1
 sh:=(Sch.list_bulk h).2
 fs:=fun q hq=>by
  simp only [AV.bulk] at h
  have h3:=v7 (x:=q.enc) (l:=mapE Sch.enc l) (by rw [zk];exact List.mem_map.2 ⟨q,hq,rfl⟩)
  rw [Sch.enc_eq] at h3
  have h2:=vo (mapE Fld.enc q.fs)
  rw [zq] at h2
  simp only [AV.bulk,AV.bulkL] at h3
  omega
theorem cellsV : Tryz.prog.cellsOf 64=2:=by kernel_rfl
theorem cellsQ : Tryz.prog.cellsOf 41=18:=by kernel_rfl
theorem aggV : wS EE.P 64=true:=by kernel_rfl
theorem aggQ : wS EE.P 41=true:=by kernel_rfl
theorem aggG : wS EE.P 70=true:=by kernel_rfl
theorem rdVr {n:Nat} {x:AV} (h:El EE.P (Cl EE.P n) 64 x):∃ v:Vr,x=v.enc:=by
 obtain ⟨cs,rfl,g⟩:=h.agg aggV
 obtain ⟨m,a,r,rfl,ha,b,r,rfl,hb,rfl⟩:=g.struct Tryz.underlying64
 obtain ⟨s,rfl,_⟩:=ha.str Tryz.underlying9
 obtain ⟨i2,rfl,_⟩:=hb.int Tryz.underlying3
 exact ⟨⟨s.data.toList,i2⟩,by rw [Vr.enc_eq];show _=AV.agg [str (ba s.data.toList),_];rw [← tL];rfl⟩
theorem rdVrs {n:Nat} {x:AV} (h:El EE.P (Cl EE.P n) 23 x):∃ l:List Vr,x=.isl 2 (mapE Vr.enc l):=by
 obtain ⟨m,es,h,hl,he⟩:=(h.one (by kernel_rfl)).slice Tryz.underlying23
 obtain ⟨l,rfl,_⟩:=xN (enc:=Vr.enc) (ok:=fun _=>True) fun x hx=>by
  obtain ⟨e,hq⟩:=rdVr (he x hx)
  exact ⟨e,hq,trivial⟩
 exact ⟨l,by rw [cellsV] at h;simpa using h⟩
theorem rdQy {n:Nat} {x:AV} (h:El EE.P (Cl EE.P n) 41 x):∃ q:Qy,x=q.enc:=by
 obtain ⟨cs,rfl,g⟩:=h.agg aggQ
 obtain ⟨m,a,r,rfl,ha,b,r,rfl,hb,c,r,rfl,hc,d,r,rfl,hd,e,r,rfl,he,rfl⟩:=g.struct Tryz.underlying41
 obtain ⟨s,rfl,_⟩:=ha.str Tryz.underlying9
 obtain ⟨m2,es,rfl,_,hes⟩:=hb.slice Tryz.underlying23
 obtain ⟨vs,rfl,_⟩:=xN (enc:=Vr.enc) (ok:=fun _=>True) fun x hx=>by
  obtain ⟨q,hq⟩:=rdVr (hes x hx)
  exact ⟨q,hq,trivial⟩
 obtain ⟨m3,ks,rfl,_,hks⟩:=hc.slice Tryz.underlying36
 obtain ⟨key,rfl,_⟩:=xN (enc:=int) (ok:=fun _=>True) fun x hx=>by
  obtain ⟨i,hi⟩:=rdInt (hks x hx)
  exact ⟨i,hi,trivial⟩
 obtain ⟨p,hp⟩:=rdPat _ (.agg d) (Nat.le_refl _) m (by unfold El;rw [aggP];exact ⟨d,rfl,hd⟩)
 obtain ⟨m4,rs,rfl,_,hrs⟩:=he.slice Tryz.underlying24
 obtain ⟨rets,rfl,_⟩:=xN (enc:=Ex.enc) (ok:=fun _=>True) fun x hx=>by
  obtain ⟨q,hq⟩:=rdEx _ x (Nat.le_refl _) _ (hrs x hx)
  exact ⟨q,hq,trivial⟩
 refine ⟨⟨s.data.toList,vs,key,p,rets⟩,?_⟩
 rw [Qy.enc_eq]
 show _=AV.agg ([str (ba s.data.toList),.isl 2 (mapE Vr.enc vs),.isl 1 (mapE int key)]++p.enc.cells++[.isl 8 (mapE Ex.enc rets)])
 rw [← tL,← hp,cellsV,cellsE,show Tryz.prog.cellsOf 3=1 from by kernel_rfl]
 simp [AV.cells]
theorem rdPg {n:Nat} {x:AV} (h:El EE.P (Cl EE.P n) 70 x):∃ (ts:List Sch) (qs:List Qy),x=.agg [.isl 2 (mapE Sch.enc ts),.isl 18 (mapE Qy.enc qs)]:=by
 obtain ⟨cs,rfl,g⟩:=h.agg aggG
 obtain ⟨m,a,r,rfl,ha,b,r,rfl,hb,rfl⟩:=g.struct Tryz.underlying70
 obtain ⟨m2,es,rfl,_,hes⟩:=ha.slice Tryz.underlying22
 obtain ⟨ts,rfl,_⟩:=xN (enc:=Sch.enc) (ok:=fun _=>True) fun x hx=>by
  obtain ⟨q,hq⟩:=rdSch (hes x hx)
  exact ⟨q,hq,trivial⟩
 obtain ⟨m3,fs,rfl,_,hfs⟩:=hb.slice Tryz.underlying68
 obtain ⟨qs,rfl,_⟩:=xN (enc:=Qy.enc) (ok:=fun _=>True) fun x hx=>by
  obtain ⟨q,hq⟩:=rdQy (hfs x hx)
  exact ⟨q,hq,trivial⟩
 exact ⟨ts,qs,by rw [cellsS,cellsQ];rfl⟩
theorem Vr.list_bulk {l:List Vr} (h:(AV.isl 2 (mapE Vr.enc l)).bulk≤1048576):l.length<1048577∧∀ v∈l,v.nm.length<1048577:=by
 have h2:=vo (mapE Vr.enc l)
 rw [zq] at h2
 simp only [AV.bulk] at h
 refine ⟨by omega,fun v hv=>?_⟩
 have h3:=v7 (x:=v.enc) (l:=mapE Vr.enc l) (by rw [zk];exact List.mem_map.2 ⟨v,hv,rfl⟩)
 have h4:=str_bulk v.nm
 rw [Vr.enc_eq] at h3
 simp only [AV.bulk,AV.bulkL] at h3 h4
 omega
theorem q_bulk {N:Nat} (a b c d e f t2:AV) (o t v s n co cv cf ck xk xn:Int) (h:(AV.agg [a,b,c,int o,d,int t,int v,int s,int n,int co,e,int cv,int cf,int ck,int xk,int xn,t2,f]).bulk≤N) :
 a.bulk≤N∧b.bulk≤N∧c.bulk+10≤N∧f.bulk≤N∧(AV.agg [int o,d,int t,int v,int s,int n,int co,e,int cv,int cf,int ck,int xk,int xn,t2]).bulk≤N:=by
 simp only [AV.bulk,AV.bulkL] at h ⊢
 omega
theorem Qy.ok_of {x:Qy} (h:x.enc.bulk≤1048576):x.Ok∧x.key.length<1048576:=by
 obtain ⟨pO,pA,pT,pV,pS,pN,pCo,pCa,pCv,pCf,pCk,pXk,pXn,pXt,he,hpe,kpA,kpC⟩:=Qy.form x
 rw [he] at h
 obtain ⟨h1,h2,h3,h4,h5⟩:=q_bulk _ _ _ _ _ _ _ _ _ _ _ _ _ _ _ _ _ _ h
 rw [← hpe] at h5
 have hs:=str_bulk x.nm
 have hk:=vo (mapE int x.key)
 rw [zq] at hk
 have hv:=Vr.list_bulk h2
 have hr:=Ex.list_sm h4
 have hk3:(AV.isl 1 (mapE int x.key)).bulk=1+AV.bulkL (mapE int x.key)∨(AV.isl 1 (mapE int x.key)).bulk=AV.bulkL (mapE int x.key)∨(AV.isl 1 (mapE int x.key)).bulk=AV.bulkL (mapE int x.key)+1:=by
  simp only [AV.bulk];omega
 clear he h hpe
 exact ⟨⟨hv.1,hv.2,by omega,Pat.sm_of h5,hr.1,hr.2,by omega⟩,by omega⟩
theorem Qy.list_ok {l:List Qy} (h:(AV.isl 18 (mapE Qy.enc l)).bulk≤1048576):l.length≤1048576∧∀ x∈l,x.Ok:=by
 have h2:=vo (mapE Qy.enc l)
 rw [zq] at h2
 simp only [AV.bulk] at h
 refine ⟨by omega,fun x hx=>(Qy.ok_of ?_).1⟩
 have h3:=v7 (x:=x.enc) (l:=mapE Qy.enc l) (by rw [zk];exact List.mem_map.2 ⟨x,hx,rfl⟩)
 omega
theorem g_bulk {N:Nat} {a b:AV} (h:(AV.agg [a,b]).bulk≤N):a.bulk≤N∧b.bulk≤N:=by
 simp only [AV.bulk,AV.bulkL] at h;omega
theorem globL {laid:List (String × DataW Unit)} (hm:("tidegate/pattern.shapes",Proofs.YtpdmaimjllhooaaGreatDoor.Rows.laid_tidegate_pattern_shapes)∈laid) (hm2:("tidegate/scope.table",Proofs.YtpdmaimjllhooaaGreatDoor.Rows.laid_tidegate_scope_table)∈laid) {W:World} (h:laidMet Tryz.prog laid W) (hsh:W.ShapedOpen Tryz.prog) :
 ∀ g,VRep ⟨fun _=>none,fun b=>b<W.heap.size⟩ 0 W (EL.G g) (.pointer (some ⟨g,0,none⟩)):=by
 intro g
 have hE:=glob_of_laid hm hm2 h g
 show VRep _ 0 W (cond (Nat.beq g 2) (.iptr [.intq]) (EE.G g)) _
 cases hb:Nat.beq g 2 with
 | false=>exact hE
 | true =>
  obtain rfl:=Nat.eq_of_beq_eq_true hb
  obtain ⟨m,hm⟩:=cell_of_shapedOpen_int (P:=Tryz.prog) (g:=2) (t:=3) (zero:=#[.int .i64 0]) hsh (of_decide_eq_true (by kernel_rfl)) (by kernel_rfl) rfl (by kernel_rfl) (by kernel_rfl) Tryz.underlying3
  refine .iptr _ (fun _=>.int .i64 m) 2 0 ?_ (fun j c hj=>?_) (fun j c hj=>?_)
  · unfold World.cell? at hm
    cases hg:W.heap[2]? with
    | none=>simp only [hg] at hm;cases hm
    | some o=>exact (Array.getElem?_eq_some_iff.1 hg).1
  · cases j with
    | zero=>exact hm
    | succ j=>cases hj
  cases j with
  | zero=>cases hj;exact .intq m
  | succ j=>cases hj
end Go.Am
end
