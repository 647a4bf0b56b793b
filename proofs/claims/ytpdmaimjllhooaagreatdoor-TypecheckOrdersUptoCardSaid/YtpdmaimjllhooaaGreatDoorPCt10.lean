/- Contracts of the program's functions. -/
import Derived.Test.YtpdmaimjllhooaaGreatDoorProg
import Derived.Test.YtpdmaimjllhooaaGreatDoorPCt8
import Derived.Test.YtpdmaimjllhooaaGreatDoorCards
import Derived.Test.YtpdmaimjllhooaaGreatDoorRows
import Derived.Test.YtpdmaimjllhooaaGreatDoorTie
section
set_option maxHeartbeats 16000000
set_option maxRecDepth 20000
namespace Go.Am
open Go.Proofs
section
variable {E:Env} {n N:Nat} {Q:zL→AFr→zz→Prop} {k:List KI} {F:AFr} {H:zz}
theorem v8 {o:AOper} {l:List AOper} {x:Opd} {xs:List Opd} {f:FuncId} {cs args:List AV} {R:AV→zz→Prop} {Hl:zz} (L:List Nat) (hg:o.guard=none) (ho:o.op=.callv x xs) (hf:x.ev E.G F=.fn f cs) (hen:yz E.P f) (hc:ACall E f args Hl R) (hnd:L.Nodup) (hlt:∀ x∈L,x<H.length)
 (hHl:Hl=L.map fun x=>(H.getD x .dead).sub (yY L)) (hargs:args=(xs.map (·.ev E.G F)++cs).map (AV.sub (yY L)))
 (h:∀ v0 H',R v0 H'→L.length≤H'.length→Holds E n N Q (.ops l) k (F.set o.dst (v0.sub (vX L H.length))) (yR H L H')):Holds E n N Q (.ops (o :: l)) k F H:=by
 refine on_callv hg ho hf rfl ⟨hen,ACall.frame hc (H:=H) (args':=xs.map (·.ev E.G F)++cs) L hnd hlt hHl hargs⟩ ?_
 rintro _ _ ⟨v0,H',h1,h2,rfl,rfl⟩
 exact h v0 H' h1 h2
end
def x8 {S:Type} (V:Int→Pat × Plc→S→S × Bool):Int→S→List (Pat × Plc)→S × Int × Bool
 | i,s,[]=>(s,i,true)
 | i,s,x :: r=>if (V (i+1) x s).2=true then x8 V (i+1) (V (i+1) x s).1 r else ((V (i+1) x s).1,i+1,false)
theorem runV_append {S:Type} (V:Int→Pat × Plc→S→S × Bool):∀ (a b:List (Pat × Plc)) (i:Int) (s:S),x8 V i s (a++b)=if (x8 V i s a).2.2=true then x8 V (x8 V i s a).2.1 (x8 V i s a).1 b else x8 V i s a
 | [],b,i,s=>by simp [x8]
 | x :: a,b,i,s=>by
  rw [List.cons_append,x8,x8]
  by_cases h:(V (i+1) x s).2=true
  · rw [if_pos h,if_pos h,runV_append V a b]
  rw [if_neg h,if_neg h];simp
theorem runV_len {S:Type} (V:Int→Pat × Plc→S→S × Bool):∀ (a:List (Pat × Plc)) (i:Int) (s:S),i≤(x8 V i s a).2.1∧(x8 V i s a).2.1≤i+a.length∧((x8 V i s a).2.2=true→(x8 V i s a).2.1=i+a.length)
 | [],i,s=>by simp [x8]
 | x :: a,i,s=>by
  rw [x8]
  by_cases h:(V (i+1) x s).2=true
  · rw [if_pos h]
    have:=runV_len V a (i+1) (V (i+1) x s).1
    simp only [List.length_cons]
    refine ⟨by omega,by omega,fun h2=>?_⟩
    have:=this.2.2 h2
    omega
  rw [if_neg h]
  simp only [List.length_cons]
  exact ⟨by omega,by omega,fun h2=>by cases h2⟩
theorem vR : ∀ i,i<6→yY [0,1,2,3,4,5] i=.to i:=fun i hi=>by
 match i,hi with
 | 0,_ | 1,_ | 2,_ | 3,_ | 4,_ | 5,_=>rfl
theorem wE (m:Nat):∀ i,i<6→vX [0,1,2,3,4,5] m i=.to i:=fun i hi=>by
 match i,hi with
 | 0,_ | 1,_ | 2,_ | 3,_ | 4,_ | 5,_=>rfl
theorem xH (r:List Sub):∀ i,i<6→ofL (.to 0 :: .to 1 :: .to 2 :: .to 3 :: .to 4 :: .to 5 :: r) i=.to i:=fun i hi=>by
 match i,hi with
 | 0,_ | 1,_ | 2,_ | 3,_ | 4,_ | 5,_=>rfl
def K6 (o:AObj):Prop:=∀ σ:Nat→Sub,(∀ i,i<6→σ i=.to i)→o.sub σ=o
theorem six_out {a0 a1 a2 a3 a4 a5:AObj} (h0:K6 a0) (h1:K6 a1) (h2:K6 a2) (h3:K6 a3) (h4:K6 a4) (h5:K6 a5) (rest:zz) :
 [a0,a1,a2,a3,a4,a5]=[0,1,2,3,4,5].map fun x=>((a0 :: a1 :: a2 :: a3 :: a4 :: a5 :: rest).getD x .dead).sub (yY [0,1,2,3,4,5]):=by
 show _=[a0.sub _,a1.sub _,a2.sub _,a3.sub _,a4.sub _,a5.sub _]
 rw [h0 _ vR,h1 _ vR,h2 _ vR,h3 _ vR,h4 _ vR,h5 _ vR]
theorem six_merge2 {b0 b1 b2 b3 b4 b5:AObj} (h0:K6 b0) (h1:K6 b1) (h2:K6 b2) (h3:K6 b3) (h4:K6 b4) (h5:K6 b5) (a0 a1 a2 a3 a4 a5 r0 r1:AObj) :
 yR [a0,a1,a2,a3,a4,a5,r0,r1] [0,1,2,3,4,5] [b0,b1,b2,b3,b4,b5]=[b0,b1,b2,b3,b4,b5,r0,r1]:=by
 show [b0.sub _,b1.sub _,b2.sub _,b3.sub _,b4.sub _,b5.sub _,r0,r1]=_
 rw [h0 _ (wE _),h1 _ (wE _),h2 _ (wE _),h3 _ (wE _),h4 _ (wE _),h5 _ (wE _)]
theorem six_merge3 {b0 b1 b2 b3 b4 b5:AObj} (h0:K6 b0) (h1:K6 b1) (h2:K6 b2) (h3:K6 b3) (h4:K6 b4) (h5:K6 b5) (a0 a1 a2 a3 a4 a5 r0 r1 r2:AObj) :
 yR [a0,a1,a2,a3,a4,a5,r0,r1,r2] [0,1,2,3,4,5] [b0,b1,b2,b3,b4,b5]=[b0,b1,b2,b3,b4,b5,r0,r1,r2]:=by
 show [b0.sub _,b1.sub _,b2.sub _,b3.sub _,b4.sub _,b5.sub _,r0,r1,r2]=_
 rw [h0 _ (wE _),h1 _ (wE _),h2 _ (wE _),h3 _ (wE _),h4 _ (wE _),h5 _ (wE _)]
theorem args6 {a b c:AV} {cs:List AV} (ha:a.closed=true) (hb:b.closed=true) (hc:c.closed=true) (h:∀ σ:Nat→Sub,(∀ i,i<6→σ i=.to i)→AV.subL σ cs=cs):[a,b,c]++cs=([a,b,c]++cs).map (AV.sub (yY [0,1,2,3,4,5])):=by
 rw [List.map_append,← AV.subL_eq _ cs,h _ vR]
 show _=[a.sub _,b.sub _,c.sub _]++cs
 rw [zY _ _ a (Nat.le_refl _) ha,zY _ _ b (Nat.le_refl _) hb,zY _ _ c (Nat.le_refl _) hc]
theorem args6b {a b:AV} {cs:List AV} (ha:a.closed=true) (hb:b.closed=true) (h:∀ σ:Nat→Sub,(∀ i,i<6→σ i=.to i)→AV.subL σ cs=cs):[a,b]++cs=([a,b]++cs).map (AV.sub (yY [0,1,2,3,4,5])):=by
 rw [List.map_append,← AV.subL_eq _ cs,h _ vR]
 show _=[a.sub _,b.sub _]++cs
 rw [zY _ _ a (Nat.le_refl _) ha,zY _ _ b (Nat.le_refl _) hb]
theorem K6.int (i:Int):K6 (.cells [int i]):=fun _ _=>rfl
theorem K6.fn {f:FuncId} {cs:List AV} (h:∀ σ:Nat→Sub,(∀ i,i<6→σ i=.to i)→AV.subL σ cs=cs):K6 (.cells [.fn f cs]):=fun σ hs=>by
 show AObj.cells [.fn f (AV.subL σ cs)]=_
 rw [h σ hs]
theorem sub_ptrs {σ:Nat→Sub} (h:∀ i,i<6→σ i=.to i):AV.subL σ [.ptr 0 0,.ptr 1 0,.ptr 2 0]=[.ptr 0 0,.ptr 1 0,.ptr 2 0]:=by
 simp only [AV.subL,AV.sub,h 0 (by decide),h 1 (by decide),h 2 (by decide)]
theorem enters_scope_walk_1 : yz EE.P 139:=enters_of rfl (by decide) T139.2
def hpV {S:Type} (vf:FuncId) (vcs:List AV) (o3 o4 o5:S→AObj) (i:Int) (s:S):zz :=
 [.cells [int i],.cells [.fn vf vcs],.cells [.fn 139 [.ptr 0 0,.ptr 1 0,.ptr 2 0]],o3 s,o4 s,o5 s]
theorem C_each {S:Type} (vf:FuncId) (vcs:List AV) (o3 o4 o5:S→AObj) (V:Int→Pat × Plc→S→S × Bool) (hen:yz EE.P vf)
 (h3:∀ s,K6 (o3 s)) (h4:∀ s,K6 (o4 s)) (h5:∀ s,K6 (o5 s)) (hvc:∀ (σ:Nat→Sub),(∀ i,i<6→σ i=.to i)→AV.subL σ vcs=vcs)
 (hV:∀ (i:Int) (x:Pat × Plc) (s:S),x.1.Sm→x.1.wf→x.2.ok→0≤i→ACall EE vf ([int i,x.1.enc,x.2.enc]++vcs) (hpV vf vcs o3 o4 o5 i s) (fun v H'=>v=bool (V i x s).2∧H'=hpV vf vcs o3 o4 o5 i (V i x s).1)) :
 ∀ p:Pat,p.Sm→p.wf→∀ (l:Plc),l.ok→∀ (i:Int) (s:S),-1≤i→i+p.cnt<1073741824 →
  ACall EE 139 [p.enc,l.enc,.ptr 0 0,.ptr 1 0,.ptr 2 0] (hpV vf vcs o3 o4 o5 i s) (fun v H'=>v=bool (x8 V i s (Pat.lf l p)).2.2∧H'=hpV vf vcs o3 o4 o5 (x8 V i s (Pat.lf l p)).2.1 (x8 V i s (Pat.lf l p)).1):=by
 have k1:K6 (.cells [.fn vf vcs]):=K6.fn hvc
 have k2:K6 (.cells [.fn 139 [.ptr 0 0,.ptr 1 0,.ptr 2 0]]):=K6.fn fun σ h=>sub_ptrs h
 refine Pat.ind ?_
 intro o a t v sc n c ih hs hw l hl i s hi0 hi1
 have hlen:=hs.len
 have hih:=fun q (hq:q∈a)=>ih q hq (hs.arg hq) (hw.arg hq)
 have hwa:∀ q∈a,q.wf:=fun q hq=>hw.arg hq
 have hsa:∀ q∈a,q.Sm:=fun q hq=>hs.arg hq
 obtain ⟨pp,hpp⟩:∃ pp,pp=Pat.mk o a t v sc n c:=⟨_,rfl⟩
 have hv1:=hV (i+1) (pp,l) s (by rw [hpp];exact hs) (by rw [hpp];exact hw) hl (by omega)
 rw [Pat.lf,x8,← hpp]
 rw [Pat.cnt] at hi1
 obtain ⟨s1,hs1⟩:∃ z,z=(V (i+1) (pp,l) s).1:=⟨_,rfl⟩
 obtain ⟨b1,hb1⟩:∃ z,z=(V (i+1) (pp,l) s).2:=⟨_,rfl⟩
 rw [← hs1,← hb1] at hv1 ⊢
 obtain ⟨Z,hZ⟩:∃ Z,Z=(if b1=true then x8 V (i+1) s1 (Pat.lfL (decide (o=1)) l a) else (s1,i+1,false)):=⟨_,rfl⟩
 rw [← hZ]
 dsimp only at hv1
 have hpc:=Pat.closed pp
 have hlc:=l.closed
 have hcl:=Pat.closedI a
 have hcc:=Ex.closed c
 have hpe:pp.enc=(Pat.mk o a t v sc n c).enc:=by rw [hpp]
 obtain ⟨cO,cA,cV,cF,cK,cXk,cXn,cXt,hcx⟩:=Ex.form c
 have hpx:=Pat.enc_c o a t v sc n hcx
 simp only [List.cons_append,List.nil_append] at hpx
 rw [hpx] at hpe
 rw [hpe] at hv1 hpc ⊢
 rw [hcx] at hcc
 have hcaI:(AV.isl 8 cA).closed=true:=by have:=hcc;simp [AV.closed,AV.closedL] at this ⊢;exact this
 simp only [Plc.enc] at hv1 hlc ⊢
 have hLU:=zq l.us
 have hLS:=zq l.si
 obtain ⟨LU,eLU⟩:∃ z,z=mapE int l.us:=⟨_,rfl⟩
 obtain ⟨LS,eLS⟩:∃ z,z=mapE int l.si:=⟨_,rfl⟩
 obtain ⟨fb,efb⟩:∃ z,z=l.fb:=⟨_,rfl⟩
 rw [← eLU,← eLS,← efb] at hv1 hlc ⊢
 rw [← eLU] at hLU
 rw [← eLS] at hLS
 unfold hpV at hv1 ⊢
 clear ih hs hw hpx hcx hpe
 refine zt ?_;unhygienic intros
 generalize hes:mapE Pat.enc a=es at *
 have hel:es.length=a.length:=by rw [← hes,zr]
 have ha1:iAdd .i64 i 1=i+1:=wZ e_iAdd (by omega) (by omega)
 obtain ⟨i1,ei1⟩:∃ z,z=i+1:=⟨_,rfl⟩
 rw [← ei1] at ha1 hv1 hZ
 have n0:bNot false=true:=by simp only [ee];rfl
 have n1:bNot true=false:=by simp only [ee];rfl
 refine rB T139 [.t 7] ?_
 show Holds EE 45 6 _ _ _ _ _
 have fz:=ha1
 refine Cq ?_
 refine v8 [0,1,2,3,4,5] rfl rfl rfl hen hv1 (by decide) (by simp) (six_out (K6.int _) k1 k2 (h3 _) (h4 _) (h5 _) _) (args6 rfl hpc hlc hvc) ?_
 rintro v0 H' ⟨rfl,rfl⟩ -
 rw [six_merge2 (K6.int _) k1 k2 (h3 _) (h4 _) (h5 _)]
 cases b1 with
 | false =>
  rw [if_neg (by decide)] at hZ
  rw [hZ]
  have fz:=n0
  refine Cq ?_
  refine Aq ?_
  refine yL (F2:=[(7,bool false)]) (H2:=[.cells [int i1],.cells [.fn vf vcs],.cells [.fn 139 [.ptr 0 0,.ptr 1 0,.ptr 2 0]],o3 s1,o4 s1,o5 s1]) ?_ rfl ⟨rfl,rfl⟩
  exact (yM [.to 0,.to 1,.to 2,.to 3,.to 4,.to 5,.gone,.gone] [some 0,some 1,some 2,some 3,some 4,some 5] ⟨rfl,rfl,rfl,rfl,rfl,rfl,trivial⟩ (by simp) (by simp) ⟨⟨by simp,rfl⟩,⟨by simp,rfl⟩,⟨by simp,rfl⟩,⟨by simp,rfl⟩,⟨by simp,rfl⟩,⟨by simp,rfl⟩,trivial,trivial,trivial⟩ ⟨.same 0 _ _ rfl rfl rfl (K6.int _ _ (xH _)),.same 1 _ _ rfl rfl rfl (k1 _ (xH _)),.same 2 _ _ rfl rfl rfl (k2 _ (xH _)),.same 3 _ _ rfl rfl rfl (h3 _ _ (xH _)),.same 4 _ _ rfl rfl rfl (h4 _ _ (xH _)),.same 5 _ _ rfl rfl rfl (h5 _ _ (xH _)),trivial⟩ ⟨.refl _,trivial⟩)
 | true =>
 rw [if_pos rfl] at hZ
 have fz:=n1
 refine Cq ?_
 refine Aq ?_
 refine za (ι:=List Pat × List Pat × Int × Int × S × Plc × List AV × List AV × Int) (fun p=>([(21,int p.2.2.1),(20,int (lenA es)),(19,.isl 14 es),(2,.ptr 0 0),(3,.ptr 1 0),(4,.ptr 2 0),(5,.ptr 6 0),(6,.ptr 7 0)],[.cells [int p.2.2.2.1],.cells [.fn vf vcs],.cells [.fn 139 [.ptr 0 0,.ptr 1 0,.ptr 2 0]],o3 p.2.2.2.2.1,o4 p.2.2.2.2.1,o5 p.2.2.2.2.1,.cells [int o,.isl 14 es,int t,int v,int sc,int n,int cO,.isl 8 cA,int cV,int cF,int cK,int cXk,int cXn,str cXt],.cells [.isl 1 p.2.2.2.2.2.2.1,.isl 1 p.2.2.2.2.2.2.2.1,int p.2.2.2.2.2.2.2.2]])) (fun p=>a=p.1++p.2.1∧p.2.2.1=p.1.length∧p.2.2.2.2.2.1.ok∧0≤p.2.2.2.1∧p.2.2.2.1+Pat.cntL p.2.1<1073741824∧Z=x8 V p.2.2.2.1 p.2.2.2.2.1 (Pat.lfL (decide (o=1)) p.2.2.2.2.2.1 p.2.1)∧p.2.2.2.2.2.2.1=mapE int p.2.2.2.2.2.1.us∧p.2.2.2.2.2.2.2.1=mapE int p.2.2.2.2.2.1.si∧p.2.2.2.2.2.2.2.2=p.2.2.2.2.2.1.fb) (fun p=>p.2.1.length) ([],a,0,i1,s1,l,LU,LS,fb) ⟨rfl,rfl,hl,(by show 0≤i1;omega),(by show i1+(Pat.cntL a:Int)<1073741824;omega),hZ,eLU,eLS,efb⟩ ?_ ?_
 · exact (yM [.to 0,.to 1,.to 2,.to 3,.to 4,.to 5,.to 6,.to 7] [some 0,some 1,some 2,some 3,some 4,some 5,some 6,some 7] ⟨rfl,rfl,rfl,rfl,rfl,rfl,trivial⟩ (by simp) (by simp) ⟨⟨by simp,rfl⟩,⟨by simp,rfl⟩,⟨by simp,rfl⟩,⟨by simp,rfl⟩,⟨by simp,rfl⟩,⟨by simp,rfl⟩,⟨by simp,rfl⟩,⟨by simp,rfl⟩,trivial⟩ ⟨.same 0 _ _ rfl rfl rfl (K6.int _ _ (xH _)),.same 1 _ _ rfl rfl rfl (k1 _ (xH _)),.same 2 _ _ rfl rfl rfl (k2 _ (xH _)),.same 3 _ _ rfl rfl rfl (h3 _ _ (xH _)),.same 4 _ _ rfl rfl rfl (h4 _ _ (xH _)),.same 5 _ _ rfl rfl rfl (h5 _ _ (xH _)),zk (b:=6) rfl rfl rfl ⟨.refl _,.cl hcl,.refl _,.refl _,.refl _,.refl _,.refl _,.cl hcaI,.refl _,.refl _,.refl _,.refl _,.refl _,.refl _,trivial⟩,zk (b:=7) rfl rfl rfl ⟨.cl hLU,.cl hLS,.refl _,trivial⟩,trivial⟩ ⟨.refl _,.refl _,.cl hcl,.refl _,.refl _,.refl _,.refl _,.refl _,trivial⟩)
 rintro ⟨d,r,j,i2,s2,l2,LU2,LS2,fb2⟩ ⟨g1,gj,gl,g0,gb,gZ,gU,gS,gf⟩
 dsimp only at g1 gj gl g0 gb gZ gU gS gf ⊢
 have hU2:(AV.isl 1 LU2).closed=true:=by rw [gU];exact zq _
 have hS2:(AV.isl 1 LS2).closed=true:=by rw [gS];exact zq _
 cases r with
 | nil =>
  have L1:=zw g1
  try simp only [List.length] at L1
  have hc:iLt j (lenA es)=false:=xg e_iLt e_lenA (by omega)
  rw [Pat.lfL,x8] at gZ
  rw [gZ]
  have fz:=hc
  refine Cq ?_
  refine Aq ?_
  refine zl ?_
  refine Aq ?_
  refine yL (F2:=[(7,bool true)]) (H2:=[.cells [int i2],.cells [.fn vf vcs],.cells [.fn 139 [.ptr 0 0,.ptr 1 0,.ptr 2 0]],o3 s2,o4 s2,o5 s2]) ?_ rfl ⟨rfl,rfl⟩
  exact (yM [.to 0,.to 1,.to 2,.to 3,.to 4,.to 5,.gone,.gone] [some 0,some 1,some 2,some 3,some 4,some 5] ⟨rfl,rfl,rfl,rfl,rfl,rfl,trivial⟩ (by simp) (by simp) ⟨⟨by simp,rfl⟩,⟨by simp,rfl⟩,⟨by simp,rfl⟩,⟨by simp,rfl⟩,⟨by simp,rfl⟩,⟨by simp,rfl⟩,trivial,trivial,trivial⟩ ⟨.same 0 _ _ rfl rfl rfl (K6.int _ _ (xH _)),.same 1 _ _ rfl rfl rfl (k1 _ (xH _)),.same 2 _ _ rfl rfl rfl (k2 _ (xH _)),.same 3 _ _ rfl rfl rfl (h3 _ _ (xH _)),.same 4 _ _ rfl rfl rfl (h4 _ _ (xH _)),.same 5 _ _ rfl rfl rfl (h5 _ _ (xH _)),trivial⟩ ⟨.refl _,trivial⟩)
 | cons q r =>
  have L1:=zw g1
  try simp only [List.length] at L1
  have hc:iLt j (lenA es)=true:=xf e_iLt e_lenA (by omega)
  have hat:=z7 e_atA hes g1 gj
  have hqm:q∈a:=by rw [g1];simp
  have hqw:=hwa q hqm
  have hqs:=hsa q hqm
  rw [Pat.cntL] at gb
  have hq:=hih q hqm l2 gl i2 s2 (by omega) (by omega)
  rw [Pat.lfL,runV_append] at gZ
  have hrl:=runV_len V (Pat.lf l2 q) i2 s2
  rw [Pat.lf_len] at hrl
  obtain ⟨⟨s3,i3,b3⟩,hrun⟩:∃ z:S × Int × Bool,x8 V i2 s2 (Pat.lf l2 q)=z:=⟨_,rfl⟩
  rw [hrun] at hq gZ hrl
  dsimp only at hq gZ hrl
  have hqc:=Pat.closed q
  have hj2:iAdd .i64 j 1=((d++[q]).length:Int):=by rw [List.length_append];exact yq e_iAdd gj (by omega)
  have hl2c:(AV.agg [.isl 1 LU2,.isl 1 LS2,int fb2]).closed=true:=by simp [AV.closed,AV.closedL] at hU2 hS2 ⊢;exact ⟨hU2,hS2⟩
  simp only [Plc.enc] at hq
  rw [← gU,← gS,← gf] at hq
  unfold hpV at hq
  obtain ⟨qO,qA,qT,qV,qS,qN,qCo,qCa,qCv,qCf,qCk,qXk,qXn,qXt,hxq⟩:=Pat.form q
  rw [hxq] at hat hqc hq
  have fz:=And.intro hc hat
  refine Cq ?_
  refine Cr ?_
  refine v8 [0,1,2,3,4,5] rfl rfl rfl enters_scope_walk_1 hq (by decide) (by simp) (six_out (K6.int _) k1 k2 (h3 _) (h4 _) (h5 _) _) (args6b hqc hl2c (fun σ h=>sub_ptrs h)) ?_
  rintro v0 H' ⟨rfl,rfl⟩ -
  rw [six_merge3 (K6.int _) k1 k2 (h3 _) (h4 _) (h5 _)]
  cases b3 with
  | false =>
   rw [if_neg (by decide)] at gZ
   rw [gZ]
   have fz:=n0
   refine Cq ?_
   refine Aq ?_
   refine zi ?_
   refine Aq ?_
   refine yL (F2:=[(7,bool false)]) (H2:=[.cells [int i3],.cells [.fn vf vcs],.cells [.fn 139 [.ptr 0 0,.ptr 1 0,.ptr 2 0]],o3 s3,o4 s3,o5 s3]) ?_ rfl ⟨rfl,rfl⟩
   exact (yM [.to 0,.to 1,.to 2,.to 3,.to 4,.to 5,.gone,.gone,.gone] [some 0,some 1,some 2,some 3,some 4,some 5] ⟨rfl,rfl,rfl,rfl,rfl,rfl,trivial⟩ (by simp) (by simp) ⟨⟨by simp,rfl⟩,⟨by simp,rfl⟩,⟨by simp,rfl⟩,⟨by simp,rfl⟩,⟨by simp,rfl⟩,⟨by simp,rfl⟩,trivial,trivial,trivial,trivial⟩ ⟨.same 0 _ _ rfl rfl rfl (K6.int _ _ (xH _)),.same 1 _ _ rfl rfl rfl (k1 _ (xH _)),.same 2 _ _ rfl rfl rfl (k2 _ (xH _)),.same 3 _ _ rfl rfl rfl (h3 _ _ (xH _)),.same 4 _ _ rfl rfl rfl (h4 _ _ (xH _)),.same 5 _ _ rfl rfl rfl (h5 _ _ (xH _)),trivial⟩ ⟨.refl _,trivial⟩)
  | true =>
  rw [if_pos rfl] at gZ
  have hi3:=hrl.2.2 rfl
  by_cases ho1:o=1
  rotate_left
  · have k1o:iEq o 1=false:=by simp only [ee];simpa using ho1
    rw [decide_eq_false ho1] at gZ
    simp only [Bool.false_eq_true,if_false] at gZ
    have fz:=And.intro n1 k1o
    refine Cq ?_
    refine Cr ?_
    refine Cr ?_
    refine zp (d++[q],r,iAdd .i64 j 1,i3,s3,l2,LU2,LS2,fb2) ⟨by simp [g1],hj2,gl,(by show 0≤i3;omega),(by show i3+(Pat.cntL r:Int)<1073741824;omega),(by rw [decide_eq_false ho1];exact gZ),gU,gS,gf⟩ (by simp) (yM [.to 0,.to 1,.to 2,.to 3,.to 4,.to 5,.to 6,.to 7,.gone] [some 0,some 1,some 2,some 3,some 4,some 5,some 6,some 7] ⟨rfl,rfl,rfl,rfl,rfl,rfl,trivial⟩ (by simp) (by simp) ⟨⟨by simp,rfl⟩,⟨by simp,rfl⟩,⟨by simp,rfl⟩,⟨by simp,rfl⟩,⟨by simp,rfl⟩,⟨by simp,rfl⟩,⟨by simp,rfl⟩,⟨by simp,rfl⟩,trivial,trivial⟩ ⟨.same 0 _ _ rfl rfl rfl (K6.int _ _ (xH _)),.same 1 _ _ rfl rfl rfl (k1 _ (xH _)),.same 2 _ _ rfl rfl rfl (k2 _ (xH _)),.same 3 _ _ rfl rfl rfl (h3 _ _ (xH _)),.same 4 _ _ rfl rfl rfl (h4 _ _ (xH _)),.same 5 _ _ rfl rfl rfl (h5 _ _ (xH _)),zk (b:=6) rfl rfl rfl ⟨.refl _,.cl hcl,.refl _,.refl _,.refl _,.refl _,.refl _,.cl hcaI,.refl _,.refl _,.refl _,.refl _,.refl _,.refl _,trivial⟩,zk (b:=7) rfl rfl rfl ⟨.cl hU2,.cl hS2,.refl _,trivial⟩,trivial⟩ ⟨.refl _,.refl _,.cl hcl,.refl _,.refl _,.refl _,.refl _,.refl _,trivial⟩)
  have k1o:iEq o 1=true:=by simp only [ee];simpa using ho1
  rw [decide_eq_true ho1] at gZ
  simp only [if_true] at gZ
  have q1:=P_Bound q hqs
  have q2:=vL l2.us q.bound (by have:=gl.2.2.1;omega) (by have:=bound_len hqw;omega)
  have q3:=P_ones q hqs hqw
  have q4:=vL l2.si q.ones (by have:=gl.2.2.2;omega) (by have:=ones_len hqw;omega)
  rw [hxq] at q1 q3
  rw [← gU] at q2
  rw [← gS] at q4
  have r1:=zq q.bound
  have r2:=zq q.ones
  have r3:=zq (yQ l2.us q.bound)
  have r4:=zq (yQ l2.si q.ones)
  have gU3:mapE int (yQ l2.us q.bound)=mapE int (l2.plus q).us:=rfl
  have gS3:mapE int (yQ l2.si q.ones)=mapE int (l2.plus q).si:=rfl
  have gf3:(-1:Int)=(l2.plus q).fb:=rfl
  have gl3:=gl.plus hqw
  generalize mapE int q.bound=B1 at *
  generalize mapE int q.ones=B2 at *
  generalize mapE int (yQ l2.us q.bound)=U3 at *
  generalize mapE int (yQ l2.si q.ones)=S3 at *
  have fz:=And.intro n1 k1o
  refine Cq ?_
  refine Cr ?_
  refine Cr ?_
  refine zP rfl (by conv=>lhs;cbv) rfl ?_
  refine tgA ?_
  refine oPT q1 ?_
  refine oPT q2 ?_
  refine tgA ?_
  refine oPT q3 ?_
  refine oPT q4 ?_
  refine tgA ?_
  refine zH ⟨rfl,?_,?_⟩
  · simp only [zK,zV,List.cons_append,List.nil_append,List.append_nil];and_intros<;>first | trivial | (intro hp;first | rfl | exact absurd (show false=true from hp) Bool.false_ne_true)
  refine Aq ?_
  refine zp (d++[q],r,iAdd .i64 j 1,i3,s3,l2.plus q,U3,S3,-1) ⟨by simp [g1],hj2,gl3,(by show 0≤i3;omega),(by show i3+(Pat.cntL r:Int)<1073741824;omega),(by rw [decide_eq_true ho1];exact gZ),gU3,gS3,gf3⟩ (by simp) (yM [.to 0,.to 1,.to 2,.to 3,.to 4,.to 5,.to 6,.to 7,.gone] [some 0,some 1,some 2,some 3,some 4,some 5,some 6,some 7] ⟨rfl,rfl,rfl,rfl,rfl,rfl,trivial⟩ (by simp) (by simp) ⟨⟨by simp,rfl⟩,⟨by simp,rfl⟩,⟨by simp,rfl⟩,⟨by simp,rfl⟩,⟨by simp,rfl⟩,⟨by simp,rfl⟩,⟨by simp,rfl⟩,⟨by simp,rfl⟩,trivial,trivial⟩ ⟨.same 0 _ _ rfl rfl rfl (K6.int _ _ (xH _)),.same 1 _ _ rfl rfl rfl (k1 _ (xH _)),.same 2 _ _ rfl rfl rfl (k2 _ (xH _)),.same 3 _ _ rfl rfl rfl (h3 _ _ (xH _)),.same 4 _ _ rfl rfl rfl (h4 _ _ (xH _)),.same 5 _ _ rfl rfl rfl (h5 _ _ (xH _)),zk (b:=6) rfl rfl rfl ⟨.refl _,.cl hcl,.refl _,.refl _,.refl _,.refl _,.refl _,.cl hcaI,.refl _,.refl _,.refl _,.refl _,.refl _,.refl _,trivial⟩,zk (b:=7) rfl rfl rfl ⟨.cl r3,.cl r4,.refl _,trivial⟩,trivial⟩ ⟨.refl _,.refl _,.cl hcl,.refl _,.refl _,.refl _,.refl _,.refl _,trivial⟩)
end Go.Am
end
section
set_option maxHeartbeats 16000000
set_option maxRecDepth 100000
namespace Go.Am
open Go.Proofs
def u6 (d:List Int):Int ⊕ List Int→Int ⊕ List Int
 | .inl e=>.inl e
 | .inr l=>.inr (d++l)
theorem consK_nil (z:Int ⊕ List Int):u6 [] z=z:=by cases z<;>rfl
theorem kindsK_bad {ts:List Sch} {vs:List Vr} {q:Ex} {r:List Ex} {ks:List Int} (h:(Ex.kindK ts vs q).2≠0):u6 ks (Ex.kindsK ts vs (q :: r))=.inl (Ex.kindK ts vs q).2:=by
 rw [Ex.kindsK,if_pos h];rfl
theorem kindsK_good {ts:List Sch} {vs:List Vr} {q:Ex} {r:List Ex} {ks:List Int} (h:(Ex.kindK ts vs q).2=0):u6 ks (Ex.kindsK ts vs (q :: r))=u6 (ks++[(Ex.kindK ts vs q).1]) (Ex.kindsK ts vs r):=by
 rw [Ex.kindsK,if_neg (by simpa using h)]
 cases Ex.kindsK ts vs r with
 | inl e=>rfl
 | inr l=>simp [u6]
theorem vF {ts:List Sch} {vs:List Vr} {o:Int} {a:List Ex} {v f k:Int} {x:Vl} (ha:a≠[]):Ex.kindK ts vs (.mk o a v f k x)=(match Ex.kindsK ts vs a with
 | .inl e=>(0,e)
 | .inr l=>if uH o l≠0 then (0,uH o l) else if o=5∨o=6 then (0,0) else (1,0)):=by rw [Ex.kindK,if_neg ha];cases Ex.kindsK ts vs a<;>rfl
theorem P_kind (ts:List Sch) (vs:List Vr) (pleaf:∀ e:Ex,0≤e.var→0≤e.fld→PCall EE 133 [.agg [.isl 2 (mapE Sch.enc ts),.isl 2 (mapE Vr.enc vs)],e.enc] (.tup [int (wn ts vs e.op e.var e.fld e.kind e.val.kind).1,int (wn ts vs e.op e.var e.fld e.kind e.val.kind).2]))
 (pops:∀ op l,l.length<1048577→PCall EE 134 [int op,.isl 1 (mapE int l)] (int (uH op l))) :
 ∀ e:Ex,e.Sm→(∀ q∈e.nodes,0≤q.var∧0≤q.fld)→PCall EE 90 [.agg [.isl 2 (mapE Sch.enc ts),.isl 2 (mapE Vr.enc vs)],e.enc] (.tup [int (e.kindK ts vs).1,int (e.kindK ts vs).2]):=by
 refine Ex.ind ?_
 intro o a v f k x ih hs hn
 have hlen:=hs.len
 have hih:∀ q∈a,_:=fun q hq=>ih q hq (hs.arg hq) fun q2 hq2=>hn q2 (by
  rw [Ex.nodes]
  obtain ⟨d,r,rfl⟩:=List.append_of_mem hq
  simp [Ex.nodesL_append,Ex.nodesL,hq2])
 have hn0:=hn _ (by rw [Ex.nodes];exact List.mem_cons_self)
 simp only [Ex.var,Ex.fld] at hn0
 have pl:=pleaf (.mk o a v f k x) hn0.1 hn0.2
 have kts:=Sch.closedI ts
 have kvs:=Vr.closedI vs
 have kcl:=Ex.closedI a
 have kpc:=Ex.closed (.mk o a v f k x)
 obtain ⟨R,hR⟩:∃ R,R=Ex.kindK ts vs (.mk o a v f k x):=⟨_,rfl⟩
 rw [← hR]
 obtain ⟨xk,xn,xt⟩:=x
 rw [Ex.enc_mk] at pl kpc ⊢
 dsimp only at pl kpc ⊢
 simp only [Ex.op,Ex.var,Ex.fld,Ex.kind,Ex.val] at pl
 clear ih hs hn pleaf
 obtain ⟨R1,R2⟩:=R
 by_cases ha:a=[]
 · rw [Ex.kindK,if_pos ha] at hR
   dsimp only at hR
   rw [← hR] at pl
   have hel:(mapE Ex.enc a).length=0:=by rw [zr,ha];rfl
   generalize mapE Sch.enc ts=ets at *
   generalize mapE Vr.enc vs=evs at *
   generalize mapE Ex.enc a=es at *
   clear hih pops
   refine zt ?_;unhygienic intros
   have k0:iEq (lenA es) 0=true:=by simp only [ee];simp [hel]
   refine fB T90 [.t 4,.t 5] ?_
   have fz:=k0
   refine Cq ?_
   refine Aq ?_
   refine oPA pl ?_
   refine Aq ?_
   exact fE [.gone,.gone]
 rw [vF ha] at hR
 clear pl
 have hnil:mapE int []=[]:=by rw [zn];rfl
 have hel:(mapE Ex.enc a).length=a.length:=zr ..
 have ha0:a.length≠0:=by simpa using ha
 generalize hes:mapE Ex.enc a=es at *
 refine zt ?_;unhygienic intros
 have k0:iEq (lenA es) 0=false:=by simp only [ee];rw [hel];simpa using ha
 generalize mapE Sch.enc ts=ets at *
 generalize mapE Vr.enc vs=evs at *
 refine fB T90 [.t 4,.t 5] ?_
 have fz:=k0
 refine Cq ?_
 refine Aq ?_
 refine za (ι:=List Ex × List Ex × Int × Nat × List AV × List Int) (fun p=>([(24,int p.2.2.1),(23,int (lenA es)),(22,.isl 8 es),(6,.sl 2 1 0 p.2.2.2.1),(3,.ptr 1 0),(2,.ptr 0 0)],[.cells [.isl 2 ets,.isl 2 evs],.cells [int o,.isl 8 es,int v,int f,int k,int xk,int xn,str xt],.arr 1 p.2.2.2.2.1])) (fun p=>a=p.1++p.2.1∧p.2.2.1=p.1.length∧p.2.2.2.1=p.2.2.2.2.1.length∧p.2.2.2.2.1=mapE int p.2.2.2.2.2∧p.2.2.2.2.2.length=p.1.length∧Ex.kindsK ts vs a=u6 p.2.2.2.2.2 (Ex.kindsK ts vs p.2.1)) (fun p=>p.2.1.length) ([],a,0,0,[],[]) ⟨rfl,rfl,rfl,hnil.symm,rfl,(consK_nil _).symm⟩ ?_ ?_
 · exact (eS [.to 0,.to 1] [some 0,some 1,none])
 rintro ⟨d,r,i,m,w,ks⟩ ⟨g1,gi,gm,gw,gk,gR⟩
 dsimp only at g1 gi gm gw gk gR ⊢
 have hcw:AV.closedL w=true:=by rw [gw];exact zM _
 cases r with
 | nil =>
  have L1:=zw g1
  try simp only [List.length] at L1
  have hc:iLt i (lenA es)=false:=xg e_iLt e_lenA (by omega)
  have po:=pops o ks (by omega)
  rw [Ex.kindsK,u6,List.append_nil] at gR
  rw [gR] at hR
  dsimp only at hR
  rw [← gw] at po
  obtain ⟨oe,hoe⟩:∃ z,z=uH o ks:=⟨_,rfl⟩
  rw [← hoe] at po hR
  clear hih pops gR
  by_cases n1:oe=0
  · have q1:iNe oe 0=false:=by simp only [ee];simpa using n1
    rw [if_neg (by omega)] at hR
    by_cases n5:o=5
    · have q2:iEq o 5=true:=by simp only [ee];simpa using n5
      rw [if_pos (by omega)] at hR
      injection hR with hR1 hR2
      rw [hR1,hR2]
      have fz:=And.intro hc (And.intro q1 q2)
      refine Cq ?_
      refine Aq ?_
      refine zl ?_
      refine Aq ?_
      refine xX rfl rfl po rfl ⟨[.gone,.gone,.isl 1 (w)],⟨trivial,trivial,⟨_,rfl,(zx _ hcw).symm⟩,trivial⟩,⟨.refl _,.of (yh rfl (by assumption)),trivial⟩⟩ ?_
      refine Cq ?_
      refine Cr ?_
      refine oC (fun c1=>?_) fun c1=>?_
      ·
       simp [ee] at c1
       refine Aq ?_
       exact fE [.gone,.gone,.gone]
      simp [ee] at c1
    have q2:iEq o 5=false:=by simp only [ee];simpa using n5
    by_cases n6:o=6
    · have q3:iEq o 6=true:=by simp only [ee];simpa using n6
      rw [if_pos (by omega)] at hR
      injection hR with hR1 hR2
      rw [hR1,hR2]
      have fz:=And.intro hc (And.intro q1 (And.intro q2 q3))
      refine Cq ?_
      refine Aq ?_
      refine zl ?_
      refine Aq ?_
      refine xX rfl rfl po rfl ⟨[.gone,.gone,.isl 1 (w)],⟨trivial,trivial,⟨_,rfl,(zx _ hcw).symm⟩,trivial⟩,⟨.refl _,.of (yh rfl (by assumption)),trivial⟩⟩ ?_
      refine Cq ?_
      refine Cr ?_
      refine oC (fun c1=>?_) fun c1=>?_
      ·
       simp [ee] at c1
       refine Aq ?_
       exact fE [.gone,.gone,.gone]
      simp [ee] at c1
    have q3:iEq o 6=false:=by simp only [ee];simpa using n6
    rw [if_neg (by omega)] at hR
    injection hR with hR1 hR2
    rw [hR1,hR2]
    have fz:=And.intro hc (And.intro q1 (And.intro q2 q3))
    refine Cq ?_
    refine Aq ?_
    refine zl ?_
    refine Aq ?_
    refine xX rfl rfl po rfl ⟨[.gone,.gone,.isl 1 (w)],⟨trivial,trivial,⟨_,rfl,(zx _ hcw).symm⟩,trivial⟩,⟨.refl _,.of (yh rfl (by assumption)),trivial⟩⟩ ?_
    refine Cq ?_
    refine Cr ?_
    refine oC (fun c1=>?_) fun c1=>?_
    ·
     simp [ee] at c1
    simp [ee] at c1
    refine Aq ?_
    exact fE [.gone,.gone,.gone]
  have q1:iNe oe 0=true:=by simp only [ee];simpa using n1
  rw [if_pos (by omega)] at hR
  injection hR with hR1 hR2
  rw [hR1,hR2]
  have fz:=And.intro hc q1
  refine Cq ?_
  refine Aq ?_
  refine zl ?_
  refine Aq ?_
  refine xX rfl rfl po rfl ⟨[.gone,.gone,.isl 1 (w)],⟨trivial,trivial,⟨_,rfl,(zx _ hcw).symm⟩,trivial⟩,⟨.refl _,.of (yh rfl (by assumption)),trivial⟩⟩ ?_
  refine Cq ?_
  refine Aq ?_
  exact fE [.gone,.gone,.gone]
 | cons q r =>
  have L1:=zw g1
  try simp only [List.length] at L1
  have hc:iLt i (lenA es)=true:=xf e_iLt e_lenA (by omega)
  have hat:=z7 e_atA hes g1 gi
  have hq:=hih q (by rw [g1];simp)
  have hqc:=Ex.closed q
  obtain ⟨qO,qA,qV,qF,qK,qXk,qXn,qXt,hx⟩:=Ex.form q
  rw [hx] at hat hqc hq
  have hi2:iAdd .i64 i 1=((d++[q]).length:Int):=by rw [List.length_append];exact yq e_iAdd gi (by omega)
  obtain ⟨qk,qe⟩:∃ z,z=Ex.kindK ts vs q:=⟨_,rfl⟩
  clear hih pops
  by_cases n1:(Ex.kindK ts vs q).2=0
  · rw [kindsK_good n1] at gR
    have hw2:catA (dropA w 0) (partA [int (Ex.kindK ts vs q).1] 0 1)=mapE int (ks++[(Ex.kindK ts vs q).1]):=by simp only [ee];rw [gw,zn,zn];simp
    have hcw2:AV.closedL (catA (dropA w 0) (partA [int (Ex.kindK ts vs q).1] 0 1))=true:=by rw [hw2];exact zM _
    have hm2:addN m (lenN (partA [int (Ex.kindK ts vs q).1] 0 1))=(catA (dropA w 0) (partA [int (Ex.kindK ts vs q).1] 0 1)).length:=by simp only [ee];simp [gm]
    have hk2:(ks++[(Ex.kindK ts vs q).1]).length=(d++[q]).length:=by simp [gk]
    have hmb:m<1048577:=by rw [gm,gw,zr];omega
    rw [n1] at hq
    generalize (Ex.kindK ts vs q).1=z1 at *
    have q1:iNe 0 0=false:=by simp only [ee];rfl
    clear hR
    have fz:=And.intro hc (And.intro hat q1)
    refine Cq ?_
    refine Cr ?_
    refine oPA hq ?_
    refine Cq ?_
    refine Aq ?_
    refine zp (d++[q],r,iAdd .i64 i 1,addN m (lenN (partA [int z1] 0 1)),catA (dropA w 0) (partA [int z1] 0 1),ks++[z1]) ⟨by simp [g1],hi2,hm2,hw2,hk2,gR⟩ (by simp) (eS [.to 0,.to 1,.gone,.gone,.gone,.to 2] [some 0,some 1,some 5])
  rw [kindsK_bad n1] at gR
  rw [gR] at hR
  dsimp only at hR
  injection hR with hR1 hR2
  rw [hR1,hR2]
  have q1:iNe (Ex.kindK ts vs q).2 0=true:=by simp only [ee];simpa using n1
  generalize (Ex.kindK ts vs q).1=z1 at *
  generalize (Ex.kindK ts vs q).2=z2 at *
  have fz:=And.intro hc (And.intro hat q1)
  refine Cq ?_
  refine Cr ?_
  refine oPA hq ?_
  refine Cq ?_
  refine Aq ?_
  refine zi ?_
  refine Aq ?_
  exact fE [.gone,.gone,.gone,.gone]
theorem opsK_bad {op:Int} {l d r:List Int} {k:Int} (h:l=d++k :: r) (hk:fK op (l.headD 0) k=false):uH op l=9:=by
 rw [uH,if_neg]
 intro h2
 rw [List.all_eq_true] at h2
 rw [h2 k (by rw [h];simp)] at hk
 cases hk
theorem opsK_good {op:Int} {l:List Int} (h:l.all (fK op (l.headD 0))=true):uH op l=0:=by rw [uH,if_pos h]
theorem head_at {l d r:List Int} {k:Int} (h:l=d++k :: r):l=[]++l.headD 0 :: l.tail:=by
 cases l with
 | nil=>simp at h
 | cons x l=>rfl
theorem P_operands (op:Int) (l:List Int) (hl:l.length<1048577):PCall EE 134 [int op,.isl 1 (mapE int l)] (int (uH op l)):=by
 have kcl:=zq l
 have hel:=zr int l
 obtain ⟨R,hR⟩:∃ R,R=uH op l:=⟨_,rfl⟩
 obtain ⟨h,hh⟩:∃ h,h=l.headD 0:=⟨_,rfl⟩
 rw [← hR]
 refine zt ?_;unhygienic intros
 generalize hes:mapE int l=es at *
 refine fB T134 [.t 4] ?_
 refine Aq ?_
 refine za (ι:=List Int × List Int × Int) (fun p=>([(10,int p.2.2),(9,int (lenA es)),(8,.isl 1 es),(1,.isl 1 es),(0,int op)],[])) (fun p=>l=p.1++p.2.1∧p.2.2=p.1.length∧p.1.all (fK op h)=true) (fun p=>p.2.1.length) ([],l,0) ⟨rfl,rfl,rfl⟩ ?_ ?_
 · exact xm ⟨.refl _,.refl _,.refl _,.refl _,.refl _,trivial⟩
 rintro ⟨d,r,i⟩ ⟨g1,gi,ga⟩
 dsimp only at g1 gi ga ⊢
 have L1:=congrArg List.length g1
 rw [List.length_append] at L1
 cases r with
 | nil =>
  simp only [List.length_nil,Nat.add_zero] at L1
  have hc:iLt i (lenA es)=false:=xg e_iLt e_lenA (by omega)
  rw [List.append_nil] at g1
  rw [← g1,hh] at ga
  rw [hR,opsK_good ga]
  have fz:=hc
  refine Cq ?_
  refine Aq ?_
  refine zl ?_
  refine Aq ?_
  exact fV
 | cons k r =>
  simp only [List.length_cons] at L1
  have hc:iLt i (lenA es)=true:=xf e_iLt e_lenA (by omega)
  have hat:=z7 e_atA hes g1 gi
  have hat0:=z7 e_atA hes (head_at g1) (show (0:Int)=(([]:List Int).length:Int) from rfl)
  rw [← hh] at hat0
  have hi2:iAdd .i64 i 1=((d++[k]).length:Int):=by rw [List.length_append];exact yq e_iAdd gi (by omega)
  have b0:(0:Int)<lenA es:=by simp only [ee];omega
  have n0:bNot false=true:=by simp only [ee];rfl
  have n1:bNot true=false:=by simp only [ee];rfl
  have hbad:fK op h k=false→R=9:=fun e=>by rw [hR];exact opsK_bad g1 (by rw [← hh];exact e)
  have hgood:fK op h k=true→(d++[k]).all (fK op h)=true:=fun e=>by rw [List.all_append,ga];simp [e]
  obtain ⟨ft,hft⟩:∃ ft,ft=fK op h k:=⟨_,rfl⟩
  rw [← hft] at hbad hgood
  unfold fK at hft
  clear hR hh
  have fz:=And.intro hc (And.intro hat (And.intro hat0 (And.intro n0 n1)))
  refine Cq ?_
  refine Cr ?_
  obtain ⟨b1,hb1⟩:∃ b1,b1=decide (op=5∨op=6∨op=7∨op=8):=⟨_,rfl⟩
  refine on_codeJ [(15,bool b1),(14,int op),(7,bool true),(6,int k),(10,int i),(9,int (lenA es)),(8,.isl 1 es),(1,.isl 1 es),(0,int op)] [] ?_ ?_
  · clear hbad hgood ga hft
    refine oC (fun c1=>?_) fun c1=>?_
    ·
     simp [ee] at c1
     refine Aq ?_
     exact ⟨rfl,xm ⟨.of (congrArg bool (by rw [hb1];first | exact (decide_eq_true (by omega)).symm | (simp only [ee];rw [Bool.eq_iff_iff];simp;omega))),.refl _,.refl _,.refl _,.refl _,.refl _,.refl _,.refl _,.refl _,trivial⟩⟩
    simp [ee] at c1
    have fz:=And.intro n0 n1
    refine Cq ?_
    refine oC (fun c2=>?_) fun c2=>?_
    ·
     simp [ee] at c2
     refine Aq ?_
     exact ⟨rfl,xm ⟨.of (congrArg bool (by rw [hb1];first | exact (decide_eq_true (by omega)).symm | (simp only [ee];rw [Bool.eq_iff_iff];simp;omega))),.refl _,.refl _,.refl _,.refl _,.refl _,.refl _,.refl _,.refl _,trivial⟩⟩
    simp [ee] at c2
    refine Cq ?_
    refine oC (fun c3=>?_) fun c3=>?_
    ·
     simp [ee] at c3
     refine Aq ?_
     exact ⟨rfl,xm ⟨.of (congrArg bool (by rw [hb1];first | exact (decide_eq_true (by omega)).symm | (simp only [ee];rw [Bool.eq_iff_iff];simp;omega))),.refl _,.refl _,.refl _,.refl _,.refl _,.refl _,.refl _,.refl _,trivial⟩⟩
    simp [ee] at c3
    refine Aq ?_
    exact ⟨rfl,xm ⟨.of (congrArg bool (by rw [hb1];first | exact (decide_eq_true (by omega)).symm | (simp only [ee];rw [Bool.eq_iff_iff];simp;omega))),.refl _,.refl _,.refl _,.refl _,.refl _,.refl _,.refl _,.refl _,trivial⟩⟩
  refine goA 0 ?_
  refine on_codeJ [(7,bool ft),(10,int i),(9,int (lenA es)),(8,.isl 1 es),(1,.isl 1 es),(0,int op)] [] ?_ ?_
  · clear hbad hgood ga
    cases b1 with
    | true =>
     rw [if_pos (of_decide_eq_true hb1.symm)] at hft
     refine Aq ?_
     exact ⟨rfl,xm ⟨.of (congrArg bool (by rw [hft];simp only [ee];rfl)),.refl _,.refl _,.refl _,.refl _,.refl _,trivial⟩⟩
    | false =>
     rw [if_neg (of_decide_eq_false hb1.symm)] at hft
     have fz:=And.intro n0 (And.intro n1 hat0)
     refine Cr ?_
     refine oC (fun c1=>?_) fun c1=>?_
     ·
      simp [ee] at c1
      refine Cq ?_
      refine oC (fun c2=>?_) fun c2=>?_
      ·
       simp [ee] at c2
       refine Aq ?_
       first | (exfalso;omega) | exact ⟨rfl,xm ⟨.of (congrArg bool (by rw [hft];(first | rw [if_pos (by omega)] | rw [if_neg (by omega),if_pos (by omega)] | rw [if_neg (by omega),if_neg (by omega)])<;>(simp only [ee];rfl))),.refl _,.refl _,.refl _,.refl _,.refl _,trivial⟩⟩
      simp [ee] at c2
      refine Cq ?_
      refine oC (fun c3=>?_) fun c3=>?_
      ·
       simp [ee] at c3
       refine Cq ?_
       first | (exfalso;omega) | exact ⟨rfl,xm ⟨.of (congrArg bool (by rw [hft];(first | rw [if_pos (by omega)] | rw [if_neg (by omega),if_pos (by omega)] | rw [if_neg (by omega),if_neg (by omega)])<;>(simp only [ee];rfl))),.refl _,.refl _,.refl _,.refl _,.refl _,trivial⟩⟩
      simp [ee] at c3
      refine Aq ?_
      first | (exfalso;omega) | exact ⟨rfl,xm ⟨.of (congrArg bool (by rw [hft];(first | rw [if_pos (by omega)] | rw [if_neg (by omega),if_pos (by omega)] | rw [if_neg (by omega),if_neg (by omega)])<;>(simp only [ee];rfl))),.refl _,.refl _,.refl _,.refl _,.refl _,trivial⟩⟩
     simp [ee] at c1
     refine Cq ?_
     refine oC (fun c4=>?_) fun c4=>?_
     ·
      simp [ee] at c4
      refine Cq ?_
      refine oC (fun c5=>?_) fun c5=>?_
      ·
       simp [ee] at c5
       refine Aq ?_
       first | (exfalso;omega) | exact ⟨rfl,xm ⟨.of (congrArg bool (by rw [hft];(first | rw [if_pos (by omega)] | rw [if_neg (by omega),if_pos (by omega)] | rw [if_neg (by omega),if_neg (by omega)])<;>(simp only [ee];rfl))),.refl _,.refl _,.refl _,.refl _,.refl _,trivial⟩⟩
      simp [ee] at c5
      refine Cq ?_
      refine oC (fun c6=>?_) fun c6=>?_
      ·
       simp [ee] at c6
       refine Cq ?_
       first | (exfalso;omega) | exact ⟨rfl,xm ⟨.of (congrArg bool (by rw [hft];(first | rw [if_pos (by omega)] | rw [if_neg (by omega),if_pos (by omega)] | rw [if_neg (by omega),if_neg (by omega)])<;>(simp only [ee];rfl))),.refl _,.refl _,.refl _,.refl _,.refl _,trivial⟩⟩
      simp [ee] at c6
      refine Aq ?_
      first | (exfalso;omega) | exact ⟨rfl,xm ⟨.of (congrArg bool (by rw [hft];(first | rw [if_pos (by omega)] | rw [if_neg (by omega),if_pos (by omega)] | rw [if_neg (by omega),if_neg (by omega)])<;>(simp only [ee];rfl))),.refl _,.refl _,.refl _,.refl _,.refl _,trivial⟩⟩
     simp [ee] at c4
     refine Cq ?_
     refine oC (fun c7=>?_) fun c7=>?_
     ·
      simp [ee] at c7
      refine Aq ?_
      first | (exfalso;omega) | exact ⟨rfl,xm ⟨.of (congrArg bool (by rw [hft];(first | rw [if_pos (by omega)] | rw [if_neg (by omega),if_pos (by omega)] | rw [if_neg (by omega),if_neg (by omega)])<;>(simp only [ee];rfl))),.refl _,.refl _,.refl _,.refl _,.refl _,trivial⟩⟩
     simp [ee] at c7
     refine Cq ?_
     refine oC (fun c8=>?_) fun c8=>?_
     ·
      simp [ee] at c8
      refine Cq ?_
      first | (exfalso;omega) | exact ⟨rfl,xm ⟨.of (congrArg bool (by rw [hft];(first | rw [if_pos (by omega)] | rw [if_neg (by omega),if_pos (by omega)] | rw [if_neg (by omega),if_neg (by omega)])<;>(simp only [ee];rfl))),.refl _,.refl _,.refl _,.refl _,.refl _,trivial⟩⟩
     simp [ee] at c8
     refine Aq ?_
     first | (exfalso;omega) | exact ⟨rfl,xm ⟨.of (congrArg bool (by rw [hft];(first | rw [if_pos (by omega)] | rw [if_neg (by omega),if_pos (by omega)] | rw [if_neg (by omega),if_neg (by omega)])<;>(simp only [ee];rfl))),.refl _,.refl _,.refl _,.refl _,.refl _,trivial⟩⟩
  cases ft with
  | false =>
   rw [hbad rfl]
   have fz:=And.intro n0 n1
   refine Cq ?_
   refine Aq ?_
   refine zi ?_
   refine Aq ?_
   exact fV
  | true =>
   have fz:=And.intro n0 n1
   refine Cq ?_
   refine Aq ?_
   refine zp (d++[k],r,iAdd .i64 i 1) ⟨by rw [g1];simp,hi2,hgood rfl⟩ (by simp) (eS [] [])
end Go.Am
end
section
set_option maxHeartbeats 16000000
set_option maxRecDepth 100000
namespace Go.Proofs
open Go.Shelf
def Tryz.lays144_ren : Go.Shelf.Ren:=⟨fun | 144=>151 | 143=>172 | 219=>192 | 217=>200 | 225=>201 | 224=>202 | 267=>203 | 266=>205 | 314=>206 | n=>n,fun | 9=>9 | 4=>4 | 3=>3 | 5=>5 | 46=>181 | 146=>210 | 51=>197 | n=>n,fun | 1=>2 | n=>n⟩
theorem Tryz.lays144 : Go.Proofs.Lays.n144 Tryz.prog Tryz.lays144_ren:={
 mixed:=by kernel_rfl
 f143:=Tryz.func172.trans (congrArg some (by kernel_rfl))
 f144:=Tryz.func151.trans (congrArg some (by kernel_rfl))
 f217:=Tryz.func200.trans (congrArg some (by kernel_rfl))
 f219:=Tryz.func192.trans (congrArg some (by kernel_rfl))
 f224:=Tryz.func202.trans (congrArg some (by kernel_rfl))
 f225:=Tryz.func201.trans (congrArg some (by kernel_rfl))
 f266:=Tryz.func205.trans (congrArg some (by kernel_rfl))
 f267:=Tryz.func203.trans (congrArg some (by kernel_rfl))
 f314:=Tryz.func206.trans (congrArg some (by kernel_rfl))
 t3:=Tryz.underlying3
 a3:=Tryz.isAgg3
 z3:=Tryz.sizeOf3
 v3:=Tryz.zeroValue3
 t4:=Tryz.underlying4
 a4:=Tryz.isAgg4
 z4:=Tryz.sizeOf4
 v4:=Tryz.zeroValue4
 t5:=Tryz.underlying5
 a5:=Tryz.isAgg5
 z5:=Tryz.sizeOf5
 v5:=Tryz.zeroValue5
 t9:=Tryz.underlying9
 a9:=Tryz.isAgg9
 z9:=Tryz.sizeOf9
 v9:=Tryz.zeroValue9
 t46:=Tryz.underlying181
 a46:=Tryz.isAgg181
 z46:=Tryz.sizeOf181
 v46:=Tryz.zeroValue181
 t51:=Tryz.underlying197
 a51:=Tryz.isAgg197
 z51:=Tryz.sizeOf197
 v51:=Tryz.zeroValue197
 t146:=Tryz.underlying210
 a146:=Tryz.isAgg210
 z146:=Tryz.sizeOf210
 v146:=Tryz.zeroValue210
 g1:=by kernel_rfl }
end Go.Proofs
namespace Go.Am
open Go.Proofs
noncomputable def EL : Env:=⟨Tryz.prog,fun n=>cond (Nat.beq n 2) (.iptr [.intq]) (EE.G n)⟩
theorem PCall.toL {f:FuncId} {args:List AV} {v:AV} (h:PCall EE f args v):PCall EL f args v:=by
 refine ⟨h.1,fun K w ys hh hv=>?_⟩
 have hh2:HRep EE K w []:=⟨by simp,by simp,hh.disj,hh.low,fun g=>by
  have hg:=hh.glob g
  revert hg
  show VRep K 0 w (cond (Nat.beq g 2) _ (EE.G g)) _→VRep K 0 w (EE.G g) _
  cases hb:Nat.beq g 2 with
  | true =>
   obtain rfl:=Nat.eq_of_beq_eq_true hb
   exact fun _=>.undef _
  | false=>exact fun h=>h⟩
 refine (h.2 K w ys hh2 hv).mono ?_
 rintro e w' ⟨v',y,H',K',h1,⟨h2,rfl⟩,h3,h4,h5⟩
 have hm:=h5.mv hh2
 exact ⟨v',y,[],K',h1,⟨h2,rfl⟩,⟨by simp,by simp,h3.disj,h3.low,fun g=>VRep.mono (K:=K) (K':=K') (fun b hb=>absurd hb (Nat.not_lt_zero _)) (Nat.le_refl _) h5.I hm.wc hm.cells (hh.glob g)⟩,h4,h5⟩
theorem enters_strings_Contains : yz EE.P 151:=enters_of rfl (by decide) T151.2
theorem P_strContains (s sub:Bs) (hs:s.length<4294967281):PCall EL 151 [str (ba s),str (ba sub)] (bool (Lib.contains s sub)):=by
 refine ⟨enters_strings_Contains,?_⟩
 intro K w ys hh hv
 obtain rfl:=vals_rep (vs:=[.string (ba s),.string (ba sub)]) hv.1 hv.2
 obtain ⟨m,hm⟩:∃ m:Int,w.cell? ⟨2,0,none⟩=some (.int .i64 m):=by
  have hg:VRep K 0 w (.iptr [.intq]) (.pointer (some ⟨2,0,none⟩)):=hh.glob 2
  cases hg with
  | iptr cs f blk off hI hc h =>
   have h1:=h 0 _ rfl
   have h2:=hc 0 _ rfl
   generalize f 0=z at *
   cases h1 with
   | intq n=>exact ⟨n,h2⟩
 have h:=Any.strings_Contains Tryz.lays144 (ba s) (ba sub) m w (by rw [vS];omega) hm
 rw [uq,uq] at h
 refine h.mono ?_
 rintro e w' ⟨rfl,rfl⟩
 have hd:=hh.drewN 0
 exact ⟨_,_,_,K,rfl,⟨rfl,rfl⟩,hd.1,.val _ (fun _ h=>by cases h),hd.2⟩
end Go.Am
end
