/- Contracts of the program's functions. -/
import Derived.Test.YtpdmaimjllhooaaGreatDoorCards
import Derived.Test.YtpdmaimjllhooaaGreatDoorProg
import Derived.Test.YtpdmaimjllhooaaGreatDoorRows
import Derived.Test.YtpdmaimjllhooaaGreatDoorTie
import Derived.Test.YtpdmaimjllhooaaGreatDoorRCt8
section
set_option maxHeartbeats 16000000
set_option maxRecDepth 100000
namespace Go.Am
open Go.Proofs
theorem xT {α:Type} {l:List α} {n:Nat} (h:n<l.length):∃ d x r,l=d++x :: r∧d.length=n∧l[n]? = some x:=by
 refine ⟨l.take n,l[n],l.drop (n+1),?_,by simp;omega,by rw [List.getElem?_eq_getElem h]⟩
 rw [List.getElem_cons_drop,List.take_append_drop]
theorem P_leaf (ts:List Sch) (vs:List Vr) (e:Ex) (_hts:ts.length<1048577) (_hvs:vs.length<1048577) (hfs:∀ s∈ts,s.fs.length<1048577) (hin:∀ v∈vs,0≤v.ty∧v.ty<ts.length) (hv:0≤e.var) (hf:0≤e.fld) :
 PCall EE 133 [.agg [.isl 2 (mapE Sch.enc ts),.isl 2 (mapE Vr.enc vs)],e.enc] (.tup [int (wA ts vs e.op e.var e.fld e.kind e.val.kind).1,int (wA ts vs e.op e.var e.fld e.kind e.val.kind).2]):=by
 have kts:=Sch.closedI ts
 have kvs:=Vr.closedI vs
 have hsu:=fun k=>P_expr_suits e.kind ⟨k,0,⟨#[]⟩⟩
 obtain ⟨o,a,v,f,k,⟨xk,xn,xt⟩⟩:=e
 have kea:=Ex.closedI a
 simp only [Ex.op,Ex.var,Ex.fld,Ex.kind,Ex.val] at hv hf hsu ⊢
 obtain ⟨R,hR⟩:∃ R,R=wA ts vs o v f k xk:=⟨_,rfl⟩
 rw [← hR,Ex.enc_mk]
 unfold wA at hR
 simp only [Vl.enc,Vl.cs] at hsu
 generalize mapE Ex.enc a=ea at *
 dsimp only
 by_cases h1:o=0
 · rw [if_pos h1] at hR
   subst hR h1
   generalize mapE Sch.enc ts=ets at *
   generalize mapE Vr.enc vs=evs at *
   refine zr ?_;unhygienic intros
   have k1:iEq 0 0=true:=by simp only [ee];rfl
   refine fB tR [.t 4,.t 5] ?_
   have fz:=k1
   refine Cq ?_
   refine Aq ?_
   exact fE [.gone,.gone]
 rw [if_neg h1] at hR
 by_cases h2:¬ v<vs.length
 · rw [if_pos h2] at hR
   subst hR
   have hel:=zq Vr.enc vs
   generalize mapE Sch.enc ts=ets at *
   generalize mapE Vr.enc vs=evs at *
   refine zr ?_;unhygienic intros
   have k1:iEq o 0=false:=by simp only [ee];simpa using h1
   have k2:iLe (lenA evs) v=true:=by simp only [ee];simp;omega
   refine fB tR [.t 4,.t 5] ?_
   have fz:=And.intro k1 k2
   refine Cq ?_
   refine Cr ?_
   refine Aq ?_
   exact fE [.gone,.gone]
 rw [if_neg h2] at hR
 have h2':v<vs.length:=by omega
 by_cases h3:o=2∨o=3
 · rw [if_pos h3] at hR
   subst hR
   have hel:=zq Vr.enc vs
   generalize mapE Sch.enc ts=ets at *
   generalize mapE Vr.enc vs=evs at *
   refine zr ?_;unhygienic intros
   have k2:iLe (lenA evs) v=false:=by simp only [ee];simp;omega
   rcases h3 with rfl | rfl
   · have k1:iEq 2 0=false:=by simp only [ee];rfl
     have k3:iEq 2 2=true:=by simp only [ee];rfl
     refine fB tR [.t 4,.t 5] ?_
     have fz:=And.intro k1 (And.intro k2 k3)
     refine Cq ?_
     refine Cr ?_
     refine Cr ?_
     refine oC (fun c1=>?_) fun c1=>?_
     ·
      simp [ee] at c1
      refine Aq ?_
      exact fE [.gone,.gone]
     simp [ee] at c1
   have k1:iEq 3 0=false:=by simp only [ee];rfl
   have k3:iEq 3 2=false:=by simp only [ee];rfl
   have k4:iEq 3 3=true:=by simp only [ee];rfl
   refine fB tR [.t 4,.t 5] ?_
   have fz:=And.intro k1 (And.intro k2 (And.intro k3 k4))
   refine Cq ?_
   refine Cr ?_
   refine Cr ?_
   refine oC (fun c1=>?_) fun c1=>?_
   ·
    simp [ee] at c1
    refine Aq ?_
    exact fE [.gone,.gone]
   simp [ee] at c1
 rw [if_neg h3] at hR
 obtain ⟨d1,x,r1,e1,e2,e3⟩:=xT (l:=vs) (n:=v.toNat) (by omega)
 rw [e3] at hR
 dsimp only at hR
 have hx:=hin x (by rw [e1];simp)
 obtain ⟨d2,s,r2,e4,e5,e6⟩:=xT (l:=ts) (n:=x.ty.toNat) (by omega)
 rw [e6] at hR
 dsimp only at hR
 have hs:=hfs s (by rw [e4];simp)
 have t1:v=(d1.length:Int):=by omega
 have t2:x.ty=(d2.length:Int):=by omega
 have hel:=zq Vr.enc vs
 have hel2:=zq Sch.enc ts
 have hel3:=zq Fld.enc s.fs
 have kfs:=Fld.closedI s.fs
 generalize hets:mapE Sch.enc ts=ets at *
 generalize hevs:mapE Vr.enc vs=evs at *
 generalize hefs:mapE Fld.enc s.fs=efs at *
 refine zr ?_;unhygienic intros
 have k1:iEq o 0=false:=by simp only [ee];simpa using h1
 have k2:iLe (lenA evs) v=false:=by simp only [ee];simp;omega
 have k3:iEq o 2=false:=by simp only [ee];simp;omega
 have k4:iEq o 3=false:=by simp only [ee];simp;omega
 have hat1:=zP e_atA hevs e1 t1
 have hat2:=zP e_atA hets e4 t2
 rw [Vr.enc_eq] at hat1
 rw [Sch.enc_eq,hefs] at hat2
 have b1:0≤v∧v<lenA evs:=by simp only [ee];omega
 have b2:0≤x.ty∧x.ty<lenA ets:=by simp only [ee];omega
 generalize ba x.nm=xnm at *
 generalize ba s.nm=snm at *
 obtain ⟨xty,hxty⟩:∃ z,z=x.ty:=⟨_,rfl⟩
 rw [← hxty] at hat1 hat2 b2
 by_cases h4:¬ f<s.fs.length
 · rw [if_pos h4] at hR
   subst hR
   have k5:iLe (lenA efs) f=true:=by simp only [ee];simp;omega
   refine fB tR [.t 4,.t 5] ?_
   have fz:=And.intro k1 (And.intro k2 (And.intro k3 (And.intro k4 (And.intro k5 (And.intro hat1 hat2)))))
   refine Cq ?_
   refine Cr ?_
   refine Cr ?_
   refine oC (fun c1=>?_) fun c1=>?_
   ·
    simp [ee] at c1
   simp [ee] at c1
   refine Cq ?_
   refine Aq ?_
   exact fE [.gone,.gone]
 rw [if_neg h4] at hR
 obtain ⟨d3,g,r3,e7,e8,e9⟩:=xT (l:=s.fs) (n:=f.toNat) (by omega)
 rw [e9] at hR
 dsimp only at hR
 have t3:f=(d3.length:Int):=by omega
 have hat3:=zP e_atA hefs e7 t3
 rw [Fld.enc_eq] at hat3
 have b3:0≤f∧f<lenA efs:=by simp only [ee];omega
 have k5:iLe (lenA efs) f=false:=by simp only [ee];simp;omega
 have hsg:=hsu g.kd
 generalize ba g.nm=gnm at *
 generalize g.kd=gk at *
 generalize wi k ⟨gk,0,⟨#[]⟩⟩=sb at *
 by_cases h5:o=4
 · subst h5
   have k6:iEq 4 4=true:=by simp only [ee];rfl
   by_cases h6:gk=xk
   · subst h6
     have k7:iNe gk gk=false:=by simp only [ee];simp
     have n0:bNot false=true:=by simp only [ee];rfl
     have n1:bNot true=false:=by simp only [ee];rfl
     cases sb with
     | true =>
      rw [if_neg (by simp)] at hR
      subst hR
      refine fB tR [.t 4,.t 5] ?_
      have fz:=And.intro k1 (And.intro k2 (And.intro k3 (And.intro k4 (And.intro k5 (And.intro k6 (And.intro k7 (And.intro n0 (And.intro n1 (And.intro hat1 (And.intro hat2 hat3))))))))))
      refine Cq ?_
      refine Cr ?_
      refine Cr ?_
      refine oC (fun c1=>?_) fun c1=>?_
      ·
       simp [ee] at c1
      simp [ee] at c1
      refine Cq ?_
      refine Cr ?_
      refine Cr ?_
      refine Cr ?_
      refine Cr ?_
      refine Cr ?_
      refine Cr ?_
      refine Aq ?_
      refine oPG hsg ?_
      refine Cq ?_
      refine Cr ?_
      refine oC (fun c2=>?_) fun c2=>?_
      ·
       simp [ee] at c2
      simp [ee] at c2
      refine Aq ?_
      exact fE [.gone,.gone]
     | false =>
      rw [if_pos (by simp)] at hR
      subst hR
      refine fB tR [.t 4,.t 5] ?_
      have fz:=And.intro k1 (And.intro k2 (And.intro k3 (And.intro k4 (And.intro k5 (And.intro k6 (And.intro k7 (And.intro n0 (And.intro n1 (And.intro hat1 (And.intro hat2 hat3))))))))))
      refine Cq ?_
      refine Cr ?_
      refine Cr ?_
      refine oC (fun c1=>?_) fun c1=>?_
      ·
       simp [ee] at c1
      simp [ee] at c1
      refine Cq ?_
      refine Cr ?_
      refine Cr ?_
      refine Cr ?_
      refine Cr ?_
      refine Cr ?_
      refine Cr ?_
      refine Aq ?_
      refine oPG hsg ?_
      refine Cq ?_
      refine Cr ?_
      refine oC (fun c2=>?_) fun c2=>?_
      ·
       simp [ee] at c2
       refine Aq ?_
       exact fE [.gone,.gone]
      simp [ee] at c2
   rw [if_pos (by simp [h6])] at hR
   subst hR
   have k7:iNe gk xk=true:=by simp only [ee];simpa using h6
   refine fB tR [.t 4,.t 5] ?_
   have fz:=And.intro k1 (And.intro k2 (And.intro k3 (And.intro k4 (And.intro k5 (And.intro k6 (And.intro k7 (And.intro hat1 (And.intro hat2 hat3))))))))
   refine Cq ?_
   refine Cr ?_
   refine Cr ?_
   refine oC (fun c1=>?_) fun c1=>?_
   ·
    simp [ee] at c1
   simp [ee] at c1
   refine Cq ?_
   refine Cr ?_
   refine Cr ?_
   refine Cr ?_
   refine Cr ?_
   refine Cr ?_
   refine Cr ?_
   refine Cr ?_
   refine Cr ?_
   refine Cr ?_
   refine Cr ?_
   refine Cr ?_
   refine Cr ?_
   refine Cr ?_
   refine oC (fun c2=>?_) fun c2=>?_
   ·
    simp [ee] at c2
    refine Aq ?_
    exact fE [.gone,.gone]
   simp [ee] at c2
 rw [if_neg (by simp [h5])] at hR
 subst hR
 have k6:iEq o 4=false:=by simp only [ee];simpa using h5
 refine fB tR [.t 4,.t 5] ?_
 have fz:=And.intro k1 (And.intro k2 (And.intro k3 (And.intro k4 (And.intro k5 (And.intro k6 (And.intro hat1 (And.intro hat2 hat3)))))))
 refine Cq ?_
 refine Cr ?_
 refine Cr ?_
 refine oC (fun c1=>?_) fun c1=>?_
 ·
  simp [ee] at c1
 simp [ee] at c1
 refine Cq ?_
 refine Cr ?_
 refine Aq ?_
 refine zi rfl rfl ?_
 refine Aq ?_
 exact fE [.gone,.gone]
theorem P_refleaf (ts:List Sch) (vs:List Vr) (e:Ex) (_hts:ts.length<1048577) (_hvs:vs.length<1048577) (hfs:∀ s∈ts,s.fs.length<1048577) (hin:∀ v∈vs,0≤v.ty∧v.ty<ts.length) (hv:0≤e.var) (hf:0≤e.fld) (hk:e.op=4→1≤e.kind) :
 PCall EE 136 [.isl 2 (mapE Sch.enc ts),.isl 2 (mapE Vr.enc vs),e.enc] (.tup [int (wA ts vs e.op e.var e.fld e.kind e.val.kind).1,int (wA ts vs e.op e.var e.fld e.kind e.val.kind).2]):=by
 have kts:=Sch.closedI ts
 have kvs:=Vr.closedI vs
 have hsu:=fun k=>P_ref07_Suits e.kind ⟨k,0,⟨#[]⟩⟩
 have hss:∀ k,e.op=4→ua e.kind ⟨k,0,⟨#[]⟩⟩=wi e.kind ⟨k,0,⟨#[]⟩⟩:=fun k h=>by
  have:=hk h
  unfold wi ua;rw [Bool.eq_iff_iff];simp;omega
 obtain ⟨o,a,v,f,k,⟨xk,xn,xt⟩⟩:=e
 have kea:=Ex.closedI a
 simp only [Ex.op,Ex.var,Ex.fld,Ex.kind,Ex.val] at hv hf hsu hss hk ⊢
 obtain ⟨R,hR⟩:∃ R,R=wA ts vs o v f k xk:=⟨_,rfl⟩
 rw [← hR,Ex.enc_mk]
 unfold wA at hR
 simp only [Vl.enc,Vl.cs] at hsu
 generalize mapE Ex.enc a=ea at *
 dsimp only
 by_cases h1:o=0
 · rw [if_pos h1] at hR
   subst hR h1
   generalize mapE Sch.enc ts=ets at *
   generalize mapE Vr.enc vs=evs at *
   refine zr ?_;unhygienic intros
   have k1:iEq 0 0=true:=by simp only [ee];rfl
   refine fB tP [.t 6,.t 7] ?_
   have fz:=k1
   refine Cq ?_
   refine Aq ?_
   exact fE [.gone]
 rw [if_neg h1] at hR
 by_cases h2:¬ v<vs.length
 · rw [if_pos h2] at hR
   subst hR
   have hel:=zq Vr.enc vs
   generalize mapE Sch.enc ts=ets at *
   generalize mapE Vr.enc vs=evs at *
   refine zr ?_;unhygienic intros
   have k1:iEq o 0=false:=by simp only [ee];simpa using h1
   have k2:iLe (lenA evs) v=true:=by simp only [ee];simp;omega
   refine fB tP [.t 6,.t 7] ?_
   have fz:=And.intro k1 k2
   refine Cq ?_
   refine Cr ?_
   refine Aq ?_
   exact fE [.gone]
 rw [if_neg h2] at hR
 have h2':v<vs.length:=by omega
 by_cases h3:o=2∨o=3
 · rw [if_pos h3] at hR
   subst hR
   have hel:=zq Vr.enc vs
   generalize mapE Sch.enc ts=ets at *
   generalize mapE Vr.enc vs=evs at *
   refine zr ?_;unhygienic intros
   have k2:iLe (lenA evs) v=false:=by simp only [ee];simp;omega
   rcases h3 with rfl | rfl
   · have k1:iEq 2 0=false:=by simp only [ee];rfl
     have k3:iEq 2 2=true:=by simp only [ee];rfl
     refine fB tP [.t 6,.t 7] ?_
     have fz:=And.intro k1 (And.intro k2 k3)
     refine Cq ?_
     refine Cr ?_
     refine Cr ?_
     refine oC (fun c1=>?_) fun c1=>?_
     ·
      simp [ee] at c1
      refine Aq ?_
      exact fE [.gone]
     simp [ee] at c1
   have k1:iEq 3 0=false:=by simp only [ee];rfl
   have k3:iEq 3 2=false:=by simp only [ee];rfl
   have k4:iEq 3 3=true:=by simp only [ee];rfl
   refine fB tP [.t 6,.t 7] ?_
   have fz:=And.intro k1 (And.intro k2 (And.intro k3 k4))
   refine Cq ?_
   refine Cr ?_
   refine Cr ?_
   refine oC (fun c1=>?_) fun c1=>?_
   ·
    simp [ee] at c1
    refine Aq ?_
    exact fE [.gone]
   simp [ee] at c1
 rw [if_neg h3] at hR
 obtain ⟨d1,x,r1,e1,e2,e3⟩:=xT (l:=vs) (n:=v.toNat) (by omega)
 rw [e3] at hR
 dsimp only at hR
 have hx:=hin x (by rw [e1];simp)
 obtain ⟨d2,s,r2,e4,e5,e6⟩:=xT (l:=ts) (n:=x.ty.toNat) (by omega)
 rw [e6] at hR
 dsimp only at hR
 have hs:=hfs s (by rw [e4];simp)
 have t1:v=(d1.length:Int):=by omega
 have t2:x.ty=(d2.length:Int):=by omega
 have hel:=zq Vr.enc vs
 have hel2:=zq Sch.enc ts
 have hel3:=zq Fld.enc s.fs
 have kfs:=Fld.closedI s.fs
 generalize hets:mapE Sch.enc ts=ets at *
 generalize hevs:mapE Vr.enc vs=evs at *
 generalize hefs:mapE Fld.enc s.fs=efs at *
 refine zr ?_;unhygienic intros
 have k1:iEq o 0=false:=by simp only [ee];simpa using h1
 have k2:iLe (lenA evs) v=false:=by simp only [ee];simp;omega
 have k3:iEq o 2=false:=by simp only [ee];simp;omega
 have k4:iEq o 3=false:=by simp only [ee];simp;omega
 have hat1:=zP e_atA hevs e1 t1
 have hat2:=zP e_atA hets e4 t2
 rw [Vr.enc_eq] at hat1
 rw [Sch.enc_eq,hefs] at hat2
 have b1:0≤v∧v<lenA evs:=by simp only [ee];omega
 have b2:0≤x.ty∧x.ty<lenA ets:=by simp only [ee];omega
 generalize ba x.nm=xnm at *
 generalize ba s.nm=snm at *
 obtain ⟨xty,hxty⟩:∃ z,z=x.ty:=⟨_,rfl⟩
 rw [← hxty] at hat1 hat2 b2
 by_cases h4:¬ f<s.fs.length
 · rw [if_pos h4] at hR
   subst hR
   have k5:iLe (lenA efs) f=true:=by simp only [ee];simp;omega
   refine fB tP [.t 6,.t 7] ?_
   have fz:=And.intro k1 (And.intro k2 (And.intro k3 (And.intro k4 (And.intro k5 (And.intro hat1 hat2)))))
   refine Cq ?_
   refine Cr ?_
   refine Cr ?_
   refine oC (fun c1=>?_) fun c1=>?_
   ·
    simp [ee] at c1
   simp [ee] at c1
   refine Cq ?_
   refine Aq ?_
   exact fE [.gone]
 rw [if_neg h4] at hR
 obtain ⟨d3,g,r3,e7,e8,e9⟩:=xT (l:=s.fs) (n:=f.toNat) (by omega)
 rw [e9] at hR
 dsimp only at hR
 have t3:f=(d3.length:Int):=by omega
 have hat3:=zP e_atA hefs e7 t3
 rw [Fld.enc_eq] at hat3
 have b3:0≤f∧f<lenA efs:=by simp only [ee];omega
 have k5:iLe (lenA efs) f=false:=by simp only [ee];simp;omega
 have hsg:=hsu g.kd
 generalize ba g.nm=gnm at *
 generalize g.kd=gk at *
 by_cases h5:o=4
 · rw [hss gk h5] at hsg
   subst h5
   clear hss
   generalize wi k ⟨gk,0,⟨#[]⟩⟩=sb at *
   have k6:iEq 4 4=true:=by simp only [ee];rfl
   by_cases h6:gk=xk
   · subst h6
     have k7:iNe gk gk=false:=by simp only [ee];simp
     have n0:bNot false=true:=by simp only [ee];rfl
     have n1:bNot true=false:=by simp only [ee];rfl
     cases sb with
     | true =>
      rw [if_neg (by simp)] at hR
      subst hR
      refine fB tP [.t 6,.t 7] ?_
      have fz:=And.intro k1 (And.intro k2 (And.intro k3 (And.intro k4 (And.intro k5 (And.intro k6 (And.intro k7 (And.intro n0 (And.intro n1 (And.intro hat1 (And.intro hat2 hat3))))))))))
      refine Cq ?_
      refine Cr ?_
      refine Cr ?_
      refine oC (fun c1=>?_) fun c1=>?_
      ·
       simp [ee] at c1
      simp [ee] at c1
      refine Cq ?_
      refine Cr ?_
      refine Cr ?_
      refine Cr ?_
      refine Cr ?_
      refine Cr ?_
      refine Cr ?_
      refine Aq ?_
      refine oPG hsg ?_
      refine Cq ?_
      refine Cr ?_
      refine oC (fun c2=>?_) fun c2=>?_
      ·
       simp [ee] at c2
      simp [ee] at c2
      refine Aq ?_
      exact fE [.gone]
     | false =>
      rw [if_pos (by simp)] at hR
      subst hR
      refine fB tP [.t 6,.t 7] ?_
      have fz:=And.intro k1 (And.intro k2 (And.intro k3 (And.intro k4 (And.intro k5 (And.intro k6 (And.intro k7 (And.intro n0 (And.intro n1 (And.intro hat1 (And.intro hat2 hat3))))))))))
      refine Cq ?_
      refine Cr ?_
      refine Cr ?_
      refine oC (fun c1=>?_) fun c1=>?_
      ·
       simp [ee] at c1
      simp [ee] at c1
      refine Cq ?_
      refine Cr ?_
      refine Cr ?_
      refine Cr ?_
      refine Cr ?_
      refine Cr ?_
      refine Cr ?_
      refine Aq ?_
      refine oPG hsg ?_
      refine Cq ?_
      refine Cr ?_
      refine oC (fun c2=>?_) fun c2=>?_
      ·
       simp [ee] at c2
       refine Aq ?_
       exact fE [.gone]
      simp [ee] at c2
   rw [if_pos (by simp [h6])] at hR
   subst hR
   have k7:iNe gk xk=true:=by simp only [ee];simpa using h6
   refine fB tP [.t 6,.t 7] ?_
   have fz:=And.intro k1 (And.intro k2 (And.intro k3 (And.intro k4 (And.intro k5 (And.intro k6 (And.intro k7 (And.intro hat1 (And.intro hat2 hat3))))))))
   refine Cq ?_
   refine Cr ?_
   refine Cr ?_
   refine oC (fun c1=>?_) fun c1=>?_
   ·
    simp [ee] at c1
   simp [ee] at c1
   refine Cq ?_
   refine Cr ?_
   refine Cr ?_
   refine Cr ?_
   refine Cr ?_
   refine Cr ?_
   refine Cr ?_
   refine Cr ?_
   refine Cr ?_
   refine Cr ?_
   refine Cr ?_
   refine Cr ?_
   refine Cr ?_
   refine Cr ?_
   refine oC (fun c2=>?_) fun c2=>?_
   ·
    simp [ee] at c2
    refine Aq ?_
    exact fE [.gone]
   simp [ee] at c2
 rw [if_neg (by simp [h5])] at hR
 subst hR
 have k6:iEq o 4=false:=by simp only [ee];simpa using h5
 refine fB tP [.t 6,.t 7] ?_
 have fz:=And.intro k1 (And.intro k2 (And.intro k3 (And.intro k4 (And.intro k5 (And.intro k6 (And.intro hat1 (And.intro hat2 hat3)))))))
 refine Cq ?_
 refine Cr ?_
 refine Cr ?_
 refine oC (fun c1=>?_) fun c1=>?_
 ·
  simp [ee] at c1
 simp [ee] at c1
 refine Cq ?_
 refine Cr ?_
 refine Aq ?_
 refine zi rfl rfl ?_
 refine Aq ?_
 exact fE [.gone]
theorem opsK_bad {op:Int} {l d r:List Int} {k:Int} (h:l=d++k :: r) (hk:fK op (l.headD 0) k=false):um op l=9:=by
 rw [um,if_neg]
 intro h2
 rw [List.all_eq_true] at h2
 rw [h2 k (by rw [h];simp)] at hk
 cases hk
theorem opsK_good {op:Int} {l:List Int} (h:l.all (fK op (l.headD 0))=true):um op l=0:=by rw [um,if_pos h]
theorem head_at {l d r:List Int} {k:Int} (h:l=d++k :: r):l=[]++l.headD 0 :: l.tail:=by
 cases l with
 | nil=>simp at h
 | cons x l=>rfl
theorem P_operands (op:Int) (l:List Int) (hl:l.length<1048577):PCall EE 134 [int op,.isl 1 (mapE int l)] (int (um op l)):=by
 have kcl:=zx l
 have hel:=zq int l
 obtain ⟨R,hR⟩:∃ R,R=um op l:=⟨_,rfl⟩
 obtain ⟨h,hh⟩:∃ h,h=l.headD 0:=⟨_,rfl⟩
 rw [← hR]
 refine zr ?_;unhygienic intros
 generalize hes:mapE int l=es at *
 refine fB T134 [.t 4] ?_
 refine Aq ?_
 refine zf (ι:=List Int × List Int × Int) (fun p=>([(10,int p.2.2),(9,int (lenA es)),(8,.isl 1 es),(1,.isl 1 es),(0,int op)],[])) (fun p=>l=p.1++p.2.1∧p.2.2=p.1.length∧p.1.all (fK op h)=true) (fun p=>p.2.1.length) ([],l,0) ⟨rfl,rfl,rfl⟩ ?_ ?_
 · exact zI ⟨.refl _,.refl _,.refl _,.refl _,.refl _,trivial⟩
 rintro ⟨d,r,i⟩ ⟨g1,gi,ga⟩
 dsimp only at g1 gi ga ⊢
 have L1:=congrArg List.length g1
 rw [List.length_append] at L1
 cases r with
 | nil =>
  simp only [List.length_nil,Nat.add_zero] at L1
  have hc:iLt i (lenA es)=false:=yW e_iLt e_lenA (by omega)
  rw [List.append_nil] at g1
  rw [← g1,hh] at ga
  rw [hR,opsK_good ga]
  have fz:=hc
  refine Cq ?_
  refine Aq ?_
  refine zo ?_
  refine Aq ?_
  exact fV
 | cons k r =>
  simp only [List.length_cons] at L1
  have hc:iLt i (lenA es)=true:=yY e_iLt e_lenA (by omega)
  have hat:=zP e_atA hes g1 gi
  have hat0:=zP e_atA hes (head_at g1) (show (0:Int)=(([]:List Int).length:Int) from rfl)
  rw [← hh] at hat0
  have hi2:iAdd .i64 i 1=((d++[k]).length:Int):=by rw [List.length_append];exact zJ e_iAdd gi (by omega)
  have b0:(0:Int)<lenA es:=by simp only [ee];omega
  have n0:bNot false=true:=by simp only [ee];rfl
  have n1:bNot true=false:=by simp only [ee];rfl
  have hbad:fK op h k=false→R=9:=fun e=>by rw [hR];exact opsK_bad g1 (by rw [← hh];exact e)
  have hgood:fK op h k=true→(d++[k]).all (fK op h)=true:=fun e=>by rw [List.all_append,ga];simp [e]
  obtain ⟨ft,hft⟩:∃ ft,ft=fK op h k:=⟨_,rfl⟩
  rw [← hft] at hbad hgood
  unfold fK at hft
  clear hR hh
  have fz:=And.intro hc (And.intro hat (And.intro hat0 (And.intro n0 n1)))
  refine Cq ?_
  refine Cr ?_
  obtain ⟨b1,hb1⟩:∃ b1,b1=decide (op=5∨op=6∨op=7∨op=8):=⟨_,rfl⟩
  refine on_codeJ [(15,bool b1),(14,int op),(7,bool true),(6,int k),(10,int i),(9,int (lenA es)),(8,.isl 1 es),(1,.isl 1 es),(0,int op)] [] ?_ ?_
  · clear hbad hgood ga hft
    refine oC (fun c1=>?_) fun c1=>?_
    ·
     simp [ee] at c1
     refine Aq ?_
     exact ⟨rfl,zI ⟨.of (congrArg bool (by rw [hb1];first | exact (decide_eq_true (by omega)).symm | (simp only [ee];rw [Bool.eq_iff_iff];simp;omega))),.refl _,.refl _,.refl _,.refl _,.refl _,.refl _,.refl _,.refl _,trivial⟩⟩
    simp [ee] at c1
    have fz:=And.intro n0 n1
    refine Cq ?_
    refine oC (fun c2=>?_) fun c2=>?_
    ·
     simp [ee] at c2
     refine Aq ?_
     exact ⟨rfl,zI ⟨.of (congrArg bool (by rw [hb1];first | exact (decide_eq_true (by omega)).symm | (simp only [ee];rw [Bool.eq_iff_iff];simp;omega))),.refl _,.refl _,.refl _,.refl _,.refl _,.refl _,.refl _,.refl _,trivial⟩⟩
    simp [ee] at c2
    refine Cq ?_
    refine oC (fun c3=>?_) fun c3=>?_
    ·
     simp [ee] at c3
     refine Aq ?_
     exact ⟨rfl,zI ⟨.of (congrArg bool (by rw [hb1];first | exact (decide_eq_true (by omega)).symm | (simp only [ee];rw [Bool.eq_iff_iff];simp;omega))),.refl _,.refl _,.refl _,.refl _,.refl _,.refl _,.refl _,.refl _,trivial⟩⟩
    simp [ee] at c3
    refine Aq ?_
    exact ⟨rfl,zI ⟨.of (congrArg bool (by rw [hb1];first | exact (decide_eq_true (by omega)).symm | (simp only [ee];rw [Bool.eq_iff_iff];simp;omega))),.refl _,.refl _,.refl _,.refl _,.refl _,.refl _,.refl _,.refl _,trivial⟩⟩
  refine goA 0 ?_
  refine on_codeJ [(7,bool ft),(10,int i),(9,int (lenA es)),(8,.isl 1 es),(1,.isl 1 es),(0,int op)] [] ?_ ?_
  · clear hbad hgood ga
    cases b1 with
    | true =>
     rw [if_pos (of_decide_eq_true hb1.symm)] at hft
     refine Aq ?_
     exact ⟨rfl,zI ⟨.of (congrArg bool (by rw [hft];simp only [ee];rfl)),.refl _,.refl _,.refl _,.refl _,.refl _,trivial⟩⟩
    | false =>
     rw [if_neg (of_decide_eq_false hb1.symm)] at hft
     have fz:=And.intro n0 (And.intro n1 hat0)
     refine Cr ?_
     refine oC (fun c1=>?_) fun c1=>?_
     ·
      simp [ee] at c1
      refine Cq ?_
      refine oC (fun c2=>?_) fun c2=>?_
      ·
       simp [ee] at c2
       refine Aq ?_
       first | (exfalso;omega) | exact ⟨rfl,zI ⟨.of (congrArg bool (by rw [hft];(first | rw [if_pos (by omega)] | rw [if_neg (by omega),if_pos (by omega)] | rw [if_neg (by omega),if_neg (by omega)])<;>(simp only [ee];rfl))),.refl _,.refl _,.refl _,.refl _,.refl _,trivial⟩⟩
      simp [ee] at c2
      refine Cq ?_
      refine oC (fun c3=>?_) fun c3=>?_
      ·
       simp [ee] at c3
       refine Cq ?_
       first | (exfalso;omega) | exact ⟨rfl,zI ⟨.of (congrArg bool (by rw [hft];(first | rw [if_pos (by omega)] | rw [if_neg (by omega),if_pos (by omega)] | rw [if_neg (by omega),if_neg (by omega)])<;>(simp only [ee];rfl))),.refl _,.refl _,.refl _,.refl _,.refl _,trivial⟩⟩
      simp [ee] at c3
      refine Aq ?_
      first | (exfalso;omega) | exact ⟨rfl,zI ⟨.of (congrArg bool (by rw [hft];(first | rw [if_pos (by omega)] | rw [if_neg (by omega),if_pos (by omega)] | rw [if_neg (by omega),if_neg (by omega)])<;>(simp only [ee];rfl))),.refl _,.refl _,.refl _,.refl _,.refl _,trivial⟩⟩
     simp [ee] at c1
     refine Cq ?_
     refine oC (fun c4=>?_) fun c4=>?_
     ·
      simp [ee] at c4
      refine Cq ?_
      refine oC (fun c5=>?_) fun c5=>?_
      ·
       simp [ee] at c5
       refine Aq ?_
       first | (exfalso;omega) | exact ⟨rfl,zI ⟨.of (congrArg bool (by rw [hft];(first | rw [if_pos (by omega)] | rw [if_neg (by omega),if_pos (by omega)] | rw [if_neg (by omega),if_neg (by omega)])<;>(simp only [ee];rfl))),.refl _,.refl _,.refl _,.refl _,.refl _,trivial⟩⟩
      simp [ee] at c5
      refine Cq ?_
      refine oC (fun c6=>?_) fun c6=>?_
      ·
       simp [ee] at c6
       refine Cq ?_
       first | (exfalso;omega) | exact ⟨rfl,zI ⟨.of (congrArg bool (by rw [hft];(first | rw [if_pos (by omega)] | rw [if_neg (by omega),if_pos (by omega)] | rw [if_neg (by omega),if_neg (by omega)])<;>(simp only [ee];rfl))),.refl _,.refl _,.refl _,.refl _,.refl _,trivial⟩⟩
      simp [ee] at c6
      refine Aq ?_
      first | (exfalso;omega) | exact ⟨rfl,zI ⟨.of (congrArg bool (by rw [hft];(first | rw [if_pos (by omega)] | rw [if_neg (by omega),if_pos (by omega)] | rw [if_neg (by omega),if_neg (by omega)])<;>(simp only [ee];rfl))),.refl _,.refl _,.refl _,.refl _,.refl _,trivial⟩⟩
     simp [ee] at c4
     refine Cq ?_
     refine oC (fun c7=>?_) fun c7=>?_
     ·
      simp [ee] at c7
      refine Aq ?_
      first | (exfalso;omega) | exact ⟨rfl,zI ⟨.of (congrArg bool (by rw [hft];(first | rw [if_pos (by omega)] | rw [if_neg (by omega),if_pos (by omega)] | rw [if_neg (by omega),if_neg (by omega)])<;>(simp only [ee];rfl))),.refl _,.refl _,.refl _,.refl _,.refl _,trivial⟩⟩
     simp [ee] at c7
     refine Cq ?_
     refine oC (fun c8=>?_) fun c8=>?_
     ·
      simp [ee] at c8
      refine Cq ?_
      first | (exfalso;omega) | exact ⟨rfl,zI ⟨.of (congrArg bool (by rw [hft];(first | rw [if_pos (by omega)] | rw [if_neg (by omega),if_pos (by omega)] | rw [if_neg (by omega),if_neg (by omega)])<;>(simp only [ee];rfl))),.refl _,.refl _,.refl _,.refl _,.refl _,trivial⟩⟩
     simp [ee] at c8
     refine Aq ?_
     first | (exfalso;omega) | exact ⟨rfl,zI ⟨.of (congrArg bool (by rw [hft];(first | rw [if_pos (by omega)] | rw [if_neg (by omega),if_pos (by omega)] | rw [if_neg (by omega),if_neg (by omega)])<;>(simp only [ee];rfl))),.refl _,.refl _,.refl _,.refl _,.refl _,trivial⟩⟩
  cases ft with
  | false =>
   rw [hbad rfl]
   have fz:=And.intro n0 n1
   refine Cq ?_
   refine Aq ?_
   refine zl ?_
   refine Aq ?_
   exact fV
  | true =>
   have fz:=And.intro n0 n1
   refine Cq ?_
   refine Aq ?_
   refine zw (d++[k],r,iAdd .i64 i 1) ⟨by rw [g1];simp,hi2,hgood rfl⟩ (by simp) (eS [] [])
end Go.Am
end
