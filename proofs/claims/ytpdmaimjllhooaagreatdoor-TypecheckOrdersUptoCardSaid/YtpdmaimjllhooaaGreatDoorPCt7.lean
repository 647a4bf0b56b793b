/- Contracts of the program's functions. -/
import Derived.Test.YtpdmaimjllhooaaGreatDoorCards
import Derived.Test.YtpdmaimjllhooaaGreatDoorProg
import Derived.Test.YtpdmaimjllhooaaGreatDoorRows
import Derived.Test.YtpdmaimjllhooaaGreatDoorTie
import Derived.Test.YtpdmaimjllhooaaGreatDoorPCt3
section
set_option maxHeartbeats 16000000
set_option maxRecDepth 100000
namespace Go.Am
open Go.Proofs
theorem P_refPosition (q:Sch) (nm:Bs) (hl:q.fs.length<1152921504606846976):PCall EE 125 [q.enc,str (ba nm)] (int (Fld.pos q.fs nm)):=by
 have kcl:=Fld.closedI q.fs
 rw [Sch.enc_eq]
 generalize q.fs=l at *
 obtain ⟨P,hP⟩:∃ P,P=Fld.pos l nm:=⟨_,rfl⟩
 rw [← hP]
 have heq:∀ f:Fld,((ba f.nm).toList == (ba nm).toList)=decide (f.nm=nm):=fun f=>ba_eqB _ _
 generalize hs:ba nm=s at *
 generalize ba q.nm=qn at *
 refine zt ?_;unhygienic intros
 generalize hes:mapE Fld.enc l=es at *
 have hel:es.length=l.length:=by rw [← hes,zr]
 have kcA:AV.closedL [str qn,.isl 2 es]=true:=by simp [AV.closedL,y6,kcl]
 refine fB T125 [.t 4] ?_
 refine Aq ?_
 refine za (ι:=List Fld × List Fld × Int) (fun p=>([(5,int p.2.2),(2,.iptr [str qn,.isl 2 es]),(1,str s)],[])) (fun p=>l=p.1++p.2.1∧p.2.2=p.1.length∧∀ f∈p.1,f.nm≠nm) (fun p=>p.2.1.length) ([],l,0) ⟨rfl,rfl,by simp⟩ ?_ ?_
 · exact (yj [.icells ([str qn,AV.isl 2 es])] [] ⟨⟨_,rfl,(zx _ kcA).symm⟩,trivial⟩ trivial ⟨.refl _,.refl _,.refl _,trivial⟩)
 rintro ⟨d,r,i⟩ ⟨g1,gi,gd⟩
 dsimp only at g1 gi gd ⊢
 cases r with
 | nil =>
  have L1:=zw g1
  try simp only [List.length] at L1
  have hc:iLt i (lenA es)=false:=xg e_iLt e_lenA (by omega)
  have hp:P = -1:=by rw [hP];exact pos_miss (by rw [g1,List.append_nil];exact gd)
  subst hp
  have fz:=hc
  refine Cq ?_
  refine Aq ?_
  refine zl ?_
  refine Aq ?_
  exact fV
 | cons f r =>
  have L1:=zw g1
  try simp only [List.length] at L1
  have hc:iLt i (lenA es)=true:=xf e_iLt e_lenA (by omega)
  have hat:=z7 e_atA hes g1 gi
  rw [Fld.enc_eq] at hat
  have hi2:iAdd .i64 i 1=((d++[f]).length:Int):=by rw [List.length_append];exact yq e_iAdd gi (by omega)
  have hq:sEq (ba f.nm) s=decide (f.nm=nm):=by simp only [ee];exact heq f
  by_cases h:f.nm=nm
  · rw [decide_eq_true h] at hq
    have hp:P=i:=by rw [hP,gi];exact pos_hit g1 gd h
    generalize ba f.nm=fs at *
    generalize f.kd=fk at *
    subst hp
    have fz:=And.intro hc (And.intro hat hq)
    refine Cq ?_
    refine Cr ?_
    refine Aq ?_
    refine zi ?_
    refine Aq ?_
    exact fV
  rw [decide_eq_false h] at hq
  have gd2:∀ x∈d++[f],x.nm≠nm:=fun x hx=>by
   rcases List.mem_append.1 hx with hx | hx
   · exact gd x hx
   simp at hx;rw [hx];exact h
  generalize ba f.nm=fs at *
  generalize f.kd=fk at *
  have fz:=And.intro hc (And.intro hat hq)
  refine Cq ?_
  refine Cr ?_
  refine Aq ?_
  refine zp (d++[f],r,iAdd .i64 i 1) ⟨by simp [g1],hi2,gd2⟩ (by simp) (eS [] [])
def whF (nm:Bs):List Sch→Int→Int
 | [],_=>-1
 | f :: r,i=>if f.nm=nm then i else whF nm r (i+1)
def Sch.wh (l:List Sch) (nm:Bs):Int:=whF nm l 0
theorem whF_app {nm:Bs}:∀ (d r:List Sch) (i:Int),(∀ f∈d,f.nm≠nm)→whF nm (d++r) i=whF nm r (i+d.length)
 | [],r,i,_=>by simp
 | f :: d,r,i,h=>by
  rw [List.cons_append,whF,if_neg (h f (by simp)),whF_app d r (i+1) fun x hx=>h x (by simp [hx])]
  congr 1;simp;omega
theorem wh_hit {nm:Bs} {l d r:List Sch} {f:Sch} (h:l=d++f :: r) (hd:∀ f∈d,f.nm≠nm) (hf:f.nm=nm):Sch.wh l nm=d.length:=by
 rw [Sch.wh,h,whF_app d _ 0 hd,whF,if_pos hf];omega
theorem wh_miss {nm:Bs} {l:List Sch} (hd:∀ f∈l,f.nm≠nm):Sch.wh l nm = -1:=by
 have:=whF_app l [] 0 hd
 rw [List.append_nil] at this
 rw [Sch.wh,this,whF]
theorem P_Where (l:List Sch) (nm:Bs) (hl:l.length<1152921504606846976):PCall EE 84 [.isl 2 (mapE Sch.enc l),str (ba nm)] (int (Sch.wh l nm)):=by
 have kcl:=Sch.closedI l
 obtain ⟨P,hP⟩:∃ P,P=Sch.wh l nm:=⟨_,rfl⟩
 rw [← hP]
 have heq:∀ f:Sch,((ba f.nm).toList == (ba nm).toList)=decide (f.nm=nm):=fun f=>ba_eqB _ _
 generalize hs:ba nm=s at *
 refine zt ?_;unhygienic intros
 generalize hes:mapE Sch.enc l=es at *
 have hel:es.length=l.length:=by rw [← hes,zr]
 refine fB T84 [.t 4] ?_
 refine Aq ?_
 refine za (ι:=List Sch × List Sch × Int) (fun p=>([(5,int p.2.2),(0,.isl 2 es),(1,str s)],[])) (fun p=>l=p.1++p.2.1∧p.2.2=p.1.length∧∀ f∈p.1,f.nm≠nm) (fun p=>p.2.1.length) ([],l,0) ⟨rfl,rfl,by simp⟩ ?_ ?_
 · exact (eS [] [])
 rintro ⟨d,r,i⟩ ⟨g1,gi,gd⟩
 dsimp only at g1 gi gd ⊢
 cases r with
 | nil =>
  have L1:=zw g1
  try simp only [List.length] at L1
  have hc:iLt i (lenA es)=false:=xg e_iLt e_lenA (by omega)
  have hp:P = -1:=by rw [hP];exact wh_miss (by rw [g1,List.append_nil];exact gd)
  subst hp
  have fz:=hc
  refine Cq ?_
  refine Aq ?_
  refine zl ?_
  refine Aq ?_
  exact fV
 | cons f r =>
  have L1:=zw g1
  try simp only [List.length] at L1
  have hc:iLt i (lenA es)=true:=xf e_iLt e_lenA (by omega)
  have hat:=z7 e_atA hes g1 gi
  rw [Sch.enc_eq] at hat
  have hi2:iAdd .i64 i 1=((d++[f]).length:Int):=by rw [List.length_append];exact yq e_iAdd gi (by omega)
  have hq:sEq (ba f.nm) s=decide (f.nm=nm):=by simp only [ee];exact heq f
  by_cases h:f.nm=nm
  · rw [decide_eq_true h] at hq
    have hp:P=i:=by rw [hP,gi];exact wh_hit g1 gd h
    generalize ba f.nm=fs at *
    generalize mapE Fld.enc f.fs=fk at *
    subst hp
    have fz:=And.intro hc (And.intro hat hq)
    refine Cq ?_
    refine Cr ?_
    refine Aq ?_
    refine zi ?_
    refine Aq ?_
    exact fV
  rw [decide_eq_false h] at hq
  have gd2:∀ x∈d++[f],x.nm≠nm:=fun x hx=>by
   rcases List.mem_append.1 hx with hx | hx
   · exact gd x hx
   simp at hx;rw [hx];exact h
  generalize ba f.nm=fs at *
  generalize mapE Fld.enc f.fs=fk at *
  have fz:=And.intro hc (And.intro hat hq)
  refine Cq ?_
  refine Cr ?_
  refine Aq ?_
  refine zp (d++[f],r,iAdd .i64 i 1) ⟨by simp [g1],hi2,gd2⟩ (by simp) (eS [] [])
theorem posF_in {nm:Bs}:∀ (d r:List Fld) (i:Int),nm∈d.map Fld.nm→tY nm (d++r) i<i+d.length
 | [],_,_,h=>by simp at h
 | f :: d,r,i,h=>by
  rw [List.cons_append,tY]
  by_cases e:f.nm=nm
  · rw [if_pos e];simp;omega
  rw [if_neg e]
  have:=posF_in d r (i+1) (by simpa [Ne.symm e] using h)
  simp only [List.length_cons];omega
theorem pos_lt {l d r:List Fld} {f:Fld} (h:l=d++f :: r):decide (Fld.pos l f.nm<(d.length:Int))=decide (f.nm∈d.map Fld.nm):=by
 apply decide_eq_decide.2
 constructor
 · intro h1
   refine Classical.byContradiction fun h2=>?_
   have:=pos_hit h (fun g hg e=>h2 (List.mem_map.2 ⟨g,hg,e⟩)) rfl
   omega
 intro h1
 have:=posF_in d (f :: r) 0 h1
 rw [Fld.pos,h];omega
theorem P_refCheck (q:Sch) (hq:q.Short):PCall EE 83 [q.enc] (int q.chk):=by
 obtain ⟨hqn,hl,hf⟩:=hq
 have kcl:=Fld.closedI q.fs
 have pp:=fun nm=>P_refPosition q nm hl
 rw [Sch.chk]
 simp only [Sch.enc_eq] at pp ⊢
 generalize q.fs=l at *
 have pn:=P_refName q.nm hqn
 clear hqn
 generalize hn:nameB q.nm=bn at *
 generalize ba q.nm=qn at *
 refine zt ?_;unhygienic intros
 generalize hes:mapE Fld.enc l=es at *
 have hel:es.length=l.length:=by rw [← hes,zr]
 have kcA:AV.closedL [str qn,.isl 2 es]=true:=by simp [AV.closedL,y6,kcl]
 have n0:bNot false=true:=by simp only [ee];rfl
 have n1:bNot true=false:=by simp only [ee];rfl
 cases bn with
 | false =>
  rw [if_pos rfl]
  refine fB T83 [.t 2] ?_
  refine Aq ?_
  refine oPA pn ?_
  have fz:=n0
  refine Cq ?_
  refine Aq ?_
  exact fV
 | true =>
 rw [if_neg (by decide)]
 by_cases h8:8<l.length
 · have k8:iLt 8 (lenA es)=true:=by simp only [ee];simp;omega
   rw [if_pos h8]
   refine fB T83 [.t 2] ?_
   refine Aq ?_
   refine oPA pn ?_
   have fz:=And.intro n1 k8
   refine Cq ?_
   refine Cr ?_
   refine Aq ?_
   exact fV
 have k8:iLt 8 (lenA es)=false:=by simp only [ee];simp;omega
 rw [if_neg h8]
 refine fB T83 [.t 2] ?_
 refine Aq ?_
 refine oPA pn ?_
 have fz:=And.intro n1 k8
 refine Cq ?_
 refine Cr ?_
 refine Aq ?_
 refine za (ι:=List Fld × List Fld × Int) (fun p=>([(3,int p.2.2),(1,.iptr [str qn,.isl 2 es])],[])) (fun p=>l=p.1++p.2.1∧p.2.2=p.1.length∧uM [] l=uM (p.1.map Fld.nm) p.2.1) (fun p=>p.2.1.length) ([],l,0) ⟨rfl,rfl,rfl⟩ ?_ ?_
 · exact (yj [.icells ([str qn,AV.isl 2 es])] [] ⟨⟨_,rfl,(zx _ kcA).symm⟩,trivial⟩ trivial ⟨.refl _,.refl _,trivial⟩)
 rintro ⟨d,r,i⟩ ⟨g1,gi,gc⟩
 dsimp only at g1 gi gc ⊢
 cases r with
 | nil =>
  have L1:=zw g1
  try simp only [List.length] at L1
  have hc:iLt i (lenA es)=false:=xg e_iLt e_lenA (by omega)
  rw [gc,uM]
  have fz:=hc
  refine Cq ?_
  refine Aq ?_
  refine zl ?_
  refine Aq ?_
  exact fV
 | cons f r =>
  have L1:=zw g1
  try simp only [List.length] at L1
  have hc:iLt i (lenA es)=true:=xf e_iLt e_lenA (by omega)
  have hat:=z7 e_atA hes g1 gi
  rw [Fld.enc_eq] at hat
  have hi2:iAdd .i64 i 1=((d++[f]).length:Int):=by rw [List.length_append];exact yq e_iAdd gi (by omega)
  have pf:=P_refName f.nm (hf f (by rw [g1];simp))
  have pq:=pp f.nm
  have gc2:uM (d.map Fld.nm++[f.nm]) r=uM ((d++[f]).map Fld.nm) r:=by simp
  rw [uM,gc2] at gc
  rw [gc]
  clear hf pp
  have kpos:iLt (Fld.pos l f.nm) i=decide (f.nm∈d.map Fld.nm):=by simp only [ee];rw [gi];exact pos_lt g1
  have e1:((ba f.nm).toList == (ByteArray.mk #[116,105,109,101]).toList)=decide (f.nm=v7):=by
   rw [show (ByteArray.mk #[116,105,109,101])=ba v7 from ba_lit v7,ba_eqB]
  have kt:sEq (ba f.nm) ⟨#[116,105,109,101]⟩=decide (f.nm=v7):=by simp only [ee];exact e1
  have hff:uE f.nm=(nameB f.nm && !decide (f.nm=v7)):=by rw [uE];simp
  rw [hff] at gc ⊢
  clear e1 hff gc2
  generalize nameB f.nm=bf at *
  generalize hin:decide (f.nm∈d.map Fld.nm)=bi at *
  generalize decide (f.nm=v7)=bt at *
  generalize Fld.pos l f.nm=P at *
  generalize ba f.nm=fs at *
  have kn0:f.kd=0→iNe f.kd 0=false:=fun h=>by simp only [ee];rw [h];rfl
  have kn1:f.kd=1→iNe f.kd 1=false:=fun h=>by simp only [ee];rw [h];rfl
  have kn2:f.kd=2→iNe f.kd 2=false:=fun h=>by simp only [ee];rw [h];rfl
  have km0:f.kd≠0→iNe f.kd 0=true:=fun h=>by simp only [ee];simpa using h
  have km1:f.kd≠1→iNe f.kd 1=true:=fun h=>by simp only [ee];simpa using h
  have km2:f.kd≠2→iNe f.kd 2=true:=fun h=>by simp only [ee];simpa using h
  generalize f.kd=fk at *
  cases bf with
  | false =>
   rw [if_pos (by simp)]
   have fz:=And.intro n0 (And.intro hc hat)
   refine Cq ?_
   refine Cr ?_
   refine oPA pf ?_
   refine Cq ?_
   refine oC (fun c1=>?_) fun c1=>?_
   ·
    simp [ee] at c1
    refine Aq ?_
    refine zi ?_
    refine Aq ?_
    exact fV
   simp [ee] at c1
  | true =>
  cases bt with
  | true =>
   rw [if_pos (by decide)]
   have fz:=And.intro n1 (And.intro hc (And.intro hat kt))
   refine Cq ?_
   refine Cr ?_
   refine oPA pf ?_
   refine Cq ?_
   refine oC (fun c1=>?_) fun c1=>?_
   ·
    simp [ee] at c1
    refine Aq ?_
    refine zi ?_
    refine Aq ?_
    exact fV
   simp [ee] at c1
  | false =>
  rw [if_neg (by decide)] at gc ⊢
  cases bi with
  | true =>
   rw [if_pos (of_decide_eq_true hin)]
   have fz:=And.intro n1 (And.intro hc (And.intro hat (And.intro kt kpos)))
   refine Cq ?_
   refine Cr ?_
   refine oPA pf ?_
   refine Cq ?_
   refine oC (fun c1=>?_) fun c1=>?_
   ·
    simp [ee] at c1
   simp [ee] at c1
   refine Aq ?_
   refine oPA pq ?_
   refine Cq ?_
   refine Aq ?_
   refine zi ?_
   refine Aq ?_
   exact fV
  | false =>
  rw [if_neg (of_decide_eq_false hin)] at gc ⊢
  by_cases n:fk<0∨3≤fk
  · rw [if_pos n]
    have k0:=km0 (by omega)
    have k1:=km1 (by omega)
    have k2:=km2 (by omega)
    clear kn0 kn1 kn2 km0 km1 km2
    have fz:=And.intro n1 (And.intro hc (And.intro hat (And.intro kt (And.intro kpos (And.intro k0 (And.intro k1 k2))))))
    refine Cq ?_
    refine Cr ?_
    refine oPA pf ?_
    refine Cq ?_
    refine oC (fun c1=>?_) fun c1=>?_
    ·
     simp [ee] at c1
    simp [ee] at c1
    refine Aq ?_
    refine oPA pq ?_
    refine Cq ?_
    refine Cr ?_
    refine oC (fun c2=>?_) fun c2=>?_
    ·
     simp [ee] at c2
     refine Aq ?_
     refine zi ?_
     refine Aq ?_
     exact fV
    simp [ee] at c2
  rw [if_neg n] at gc ⊢
  by_cases n0':fk=0
  · have k0:=kn0 n0'
    clear kn0 kn1 kn2 km0 km1 km2
    have fz:=And.intro n1 (And.intro hc (And.intro hat (And.intro kt (And.intro kpos k0))))
    refine Cq ?_
    refine Cr ?_
    refine oPA pf ?_
    refine Cq ?_
    refine oC (fun c1=>?_) fun c1=>?_
    ·
     simp [ee] at c1
    simp [ee] at c1
    refine Aq ?_
    refine oPA pq ?_
    refine Cq ?_
    refine Cr ?_
    refine oC (fun c2=>?_) fun c2=>?_
    ·
     simp [ee] at c2
    simp [ee] at c2
    refine Aq ?_
    refine zp (d++[f],r,iAdd .i64 i 1) ⟨by simp [g1],hi2,gc ▸ rfl⟩ (by simp) (eS [.gone] [])
  have k0:=km0 n0'
  by_cases n1':fk=1
  · have k1:=kn1 n1'
    clear kn0 kn1 kn2 km0 km1 km2
    have fz:=And.intro n1 (And.intro hc (And.intro hat (And.intro kt (And.intro kpos (And.intro k0 k1)))))
    refine Cq ?_
    refine Cr ?_
    refine oPA pf ?_
    refine Cq ?_
    refine oC (fun c1=>?_) fun c1=>?_
    ·
     simp [ee] at c1
    simp [ee] at c1
    refine Aq ?_
    refine oPA pq ?_
    refine Cq ?_
    refine Cr ?_
    refine oC (fun c2=>?_) fun c2=>?_
    ·
     simp [ee] at c2
    simp [ee] at c2
    refine Aq ?_
    refine zp (d++[f],r,iAdd .i64 i 1) ⟨by simp [g1],hi2,gc ▸ rfl⟩ (by simp) (eS [.gone] [])
  have k1:=km1 n1'
  have k2:=kn2 (by omega)
  clear kn0 kn1 kn2 km0 km1 km2
  have fz:=And.intro n1 (And.intro hc (And.intro hat (And.intro kt (And.intro kpos (And.intro k0 (And.intro k1 k2))))))
  refine Cq ?_
  refine Cr ?_
  refine oPA pf ?_
  refine Cq ?_
  refine oC (fun c1=>?_) fun c1=>?_
  ·
   simp [ee] at c1
  simp [ee] at c1
  refine Aq ?_
  refine oPA pq ?_
  refine Cq ?_
  refine Cr ?_
  refine oC (fun c2=>?_) fun c2=>?_
  ·
   simp [ee] at c2
  simp [ee] at c2
  refine Aq ?_
  refine zp (d++[f],r,iAdd .i64 i 1) ⟨by simp [g1],hi2,gc ▸ rfl⟩ (by simp) (eS [.gone] [])
def uB (k:Int) (v:Vl):Bool:=decide (v.kind=0∨k=0∨k=4∨k=5)
theorem P_ref07_Suits (k:Int) (v:Vl):PCall EE 163 [int k,v.enc] (bool (uB k v)):=by
 obtain ⟨R,hR⟩:∃ R,R=uB k v:=⟨_,rfl⟩
 rw [← hR]
 unfold uB at hR
 obtain ⟨xk,xn,xt⟩:=v
 dsimp only at hR
 show PCall EE _ [int k,.agg [int xk,int xn,str xt]] _
 refine zt ?_;unhygienic intros
 refine fB T163 [.t 4] ?_
 refine Aq ?_
 exact fBo (h:=by rw [hR,Bool.eq_iff_iff];simp only [ee];simp [or_assoc])
theorem P_ref01_Check (v:Vl):PCall EE 179 [v.enc] (int v.chk):=by
 obtain ⟨R,hR⟩:∃ R,R=v.chk:=⟨_,rfl⟩
 rw [← hR]
 have h0:v.text=⟨#[]⟩↔v.text.toList=[]:=by
  constructor
  · intro h;rw [h];simp
  intro h;exact u7 (by rw [h];simp)
 have hz:v.text.toList=[]→(v.text.size:Int)=0:=fun h=>by rw [h0.2 h];rfl
 unfold Vl.chk Vl.sizeE at hR
 obtain ⟨xk,xn,xt⟩:=v
 dsimp only at hR h0 hz
 simp only [ne_eq,h0] at hR
 show PCall EE _ [.agg [int xk,int xn,str xt]] _
 refine zt ?_;unhygienic intros
 have hsn:∀ s:ByteArray,(s.toList == (ByteArray.mk #[]).toList)=decide (s.toList=[]):=by
  intro s
  have hn:(ByteArray.mk #[]).toList=[]:=by simp
  rw [hn]
  cases s.toList<;>rfl
 refine fB T179 [.t 2] ?_
 refine goA 0 ?_
 refine oC (fun c1=>?_) fun c1=>?_
 ·
  simp [ee] at c1
  refine Aq ?_
  exact fI (h:=by rw [hR];simp only [ee,hsn] at *;clear ee hX;grind)
 simp [ee] at c1
 refine goA 0 ?_
 refine oC (fun c2=>?_) fun c2=>?_
 ·
  simp [ee] at c2
  refine goA 0 ?_
  refine oC (fun c3=>?_) fun c3=>?_
  ·
   simp [ee] at c3
   refine Aq ?_
   exact fI (h:=by rw [hR];simp only [ee,hsn] at *;clear ee hX;grind)
  simp [ee] at c3
  refine goA 0 ?_
  refine oC (fun c4=>?_) fun c4=>?_
  ·
   simp [ee] at c4
   refine Aq ?_
   exact fI (h:=by rw [hR];simp only [ee,hsn] at *;clear ee hX;grind)
  simp [ee] at c4
  refine Aq ?_
  exact fI (h:=by rw [hR];simp only [ee,hsn] at *;clear ee hX;grind)
 simp [ee] at c2
 refine goA 0 ?_
 refine oC (fun c5=>?_) fun c5=>?_
 ·
  simp [ee] at c5
  refine Aq ?_
  exact fI (h:=by rw [hR];simp only [ee,hsn] at *;clear ee hX;grind)
 simp [ee] at c5
 refine goA 0 ?_
 refine nsB hX (by conv=>lhs;cbv) ?_
 refine goA 0 ?_
 refine oC (fun c6=>?_) fun c6=>?_
 ·
  simp [ee] at c6
  refine Aq ?_
  exact fI (h:=by rw [hR];simp only [ee,hsn] at *;clear ee hX;grind)
 simp [ee] at c6
 refine Aq ?_
 exact fI (h:=by rw [hR];simp only [ee,hsn] at *;clear ee hX;grind)
theorem P_ref08_uses (o:Int):PCall EE 178 [int o] (.tup [bool (vp o),bool (vM o)]):=by
 obtain ⟨R,hR⟩:∃ R,R=vp o:=⟨_,rfl⟩
 obtain ⟨R2,hR2⟩:∃ R,R=vM o:=⟨_,rfl⟩
 rw [← hR,← hR2]
 unfold vp at hR
 unfold vM at hR2
 refine zt ?_;unhygienic intros
 refine fB T178 [.t 2,.t 3] ?_
 refine Aq ?_
 refine zD rfl rfl ?_
 exact Fz.none (.tup' ⟨.of (congrArg bool (by rw [hR,Bool.eq_iff_iff];simp only [ee];simp;omega)),.of (congrArg bool (by rw [hR2,Bool.eq_iff_iff];simp only [ee];simp)),trivial⟩)
def vK (o:Int):Int:=if o<0∨12<o then -1 else if o<5 then 0 else if o=12 then 1 else 2
theorem P_ref08_arity (o:Int):PCall EE 177 [int o] (int (vK o)):=by
 obtain ⟨R,hR⟩:∃ R,R=vK o:=⟨_,rfl⟩
 rw [← hR]
 unfold vK at hR
 refine zt ?_;unhygienic intros
 refine fB T177 [.t 2] ?_
 repeat' first
  | (refine on_cond rfl (fun c=>?_) (fun c=>?_)<;>(try simp [ee] at c))
  | (refine zD rfl rfl (.val ?_);exact congrArg (Value.int .i64) (by rw [hR];(repeat' split)<;>first | rfl | omega))
  | refine go rfl hX 0 (by conv=>lhs;cbv) (by exact trivial) ?_
end Go.Am
end
