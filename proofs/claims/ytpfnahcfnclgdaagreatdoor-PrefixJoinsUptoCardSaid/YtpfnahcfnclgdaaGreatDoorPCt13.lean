/- Contracts of the program's functions. -/
import Derived.Test.YtpfnahcfnclgdaaGreatDoorProg
import Derived.Test.YtpfnahcfnclgdaaGreatDoorPCt12
noncomputable section
set_option maxHeartbeats 16000000
set_option maxRecDepth 100000
namespace Go.Am
open Go.Proofs
theorem addAll_le : ∀ (l out:List Pat),out.length≤(wQ out l).length
 | [],out=>Nat.le_refl _
 | r :: l,out=>by
  rw [wQ]
  refine Nat.le_trans ?_ (addAll_le l _)
  split<;>simp
def resR : Option (List Pat)→AV
 | none=>.tup [.isl 14 [],int 17]
 | some l=>.tup [.isl 14 (zy Pat.enc l),int 0]
theorem P_ResidualsS (G:Pat→Prop) (hG:RsSet G) {p:Pat} (hp:G p) (h:p.chk=0):PCall EE 129 [p.enc] (resR p.res):=by
 have pc:=P_pattern_Check p (hG.ok p hp).sm
 rw [h] at pc
 have hcl:=Pat.closed p
 obtain ⟨D,hD⟩:∃ D,D=p.res:=⟨_,rfl⟩
 rw [← hD]
 have hD0:D=sC 257 [p] 0:=hD
 have hP1:zy Pat.enc [p]=[p.enc]:=by rw [zu];rfl
 clear hD
 obtain ⟨pO,pA,pT,pV,pS,pN,pCo,pCa,pCv,pCf,pCk,pXk,pXn,pXt,hx⟩:=Pat.form p
 rw [hx] at hcl pc hP1 ⊢
 have kcl:AV.closedL [int pO,.isl 14 pA,int pT,int pV,int pS,int pN,int pCo,.isl 8 pCa,int pCv,int pCf,int pCk,int pXk,int pXn,str pXt]=true:=by simpa only [AV.closed] using hcl
 refine zo ?_;unhygienic intros
 have k0:iNe 0 0=false:=by simp only [ee];rfl
 have k17:iNe 17 0=true:=by simp only [ee];rfl
 refine fB T129 [.t 2,.t 3] ?_
 refine Aq ?_
 refine zh (args:=[.agg [int pO,.isl 14 pA,int pT,int pV,int pS,int pN,int pCo,.isl 8 pCa,int pCv,int pCf,int pCk,int pXk,int pXn,str pXt]]) rfl rfl rfl pc (zg hcl) ?_
 have fz:=k0
 refine Cq ?_
 refine goC 60 ?_
 refine ze (ι:=List Pat × Nat × Int) (fun p=>([(6,int p.2.2),(5,.sl 1 14 0 p.1.length)],[.cells [int pO,.isl 14 pA,int pT,int pV,int pS,int pN,int pCo,.isl 8 pCa,int pCv,int pCf,int pCk,int pXk,int pXn,str pXt],.arr 14 (zy Pat.enc p.1)])) (fun p=>p.2.2=p.2.1∧D=sC (257 - p.2.1) p.1 p.2.1∧p.2.1≤p.1.length∧p.1.length≤256∧∀ q∈p.1,G q) (fun p=>300 - p.2.1) ([p],0,0) ⟨rfl,hD0,by simp,by simp,by simpa using hp⟩ ?_ ?_
 · dsimp only
   rw [hP1]
   exact yz ⟨.refl _,.refl _,trivial⟩
 rintro ⟨o,k,i⟩ ⟨gi,gd,gk,gl,gG⟩
 dsimp only at gi gd gk gl gG ⊢
 have kol:=Pat.closedL' o
 have hol:=zp Pat.enc o
 obtain ⟨ol,hO1⟩:∃ ol,ol=zy Pat.enc o:=⟨_,rfl⟩
 obtain ⟨n,hn⟩:∃ n,n=o.length:=⟨_,rfl⟩
 rw [← hO1,← hn]
 rw [← hO1] at kol hol
 rw [← hn] at hol gk gl
 by_cases hk:k<n
 rotate_left
 · have n1:iLt i (iOf n)=false:=by simp only [ee];simp;omega
   have hd2:D=some o:=by
    rw [gd,show 257 - k=(256 - k)+1 by omega,sC,List.getElem?_eq_none (by omega)]
   rw [hd2]
   have fz:=n1
   refine Cq ?_
   refine goC 60 ?_
   refine zk ?_
   refine Aq ?_
   refine zP rfl rfl ?_
   refine ⟨[.gone,.isl 14 ol],⟨trivial,⟨_,rfl,(zw _ kol).symm⟩,trivial⟩,?_⟩
   rw [resR,← hO1]
   exact .tup' ⟨.of (xf rfl hol.symm),.refl _,trivial⟩
 have n1:iLt i (iOf n)=true:=by simp only [ee];simp;omega
 obtain ⟨q,hq⟩:∃ q,o[k]? = some q:=⟨_,List.getElem?_eq_getElem (by omega)⟩
 have hGq:=gG q (List.mem_of_getElem? hq)
 have hok:=hG.ok q hGq
 have hat:atN ol (idxN 0 i)=q.enc:=by
  simp only [ee]
  rw [hO1,zu,gi]
  simp [List.getD_eq_getElem?_getD,List.getElem?_map,hq]
 have gd2:D=match q.der with
  | none=>none
  | some S=>if 256<(wQ o S.2).length then none else sC (256 - k) (wQ o S.2) (k+1):=by
  rw [gd,show 257 - k=(256 - k)+1 by omega,sC,hq]
  rfl
 have kq:=Pat.closed q
 cases hdq:q.der with
 | none =>
  have po:=O_derivedN hok hdq
  rw [hdq] at gd2
  rw [gd2]
  obtain ⟨qO,qA,qT,qV,qS,qN,qCo,qCa,qCv,qCf,qCk,qXk,qXn,qXt,hqf⟩:=Pat.form q
  rw [hqf] at hat kq po
  have fz:=n1
  refine Cq ?_
  have fz:=And.intro n1 hat
  refine Cr ?_
  have fz:=hat
  refine Cq ?_
  refine wH (args:=[.agg [int qO,.isl 14 qA,int qT,int qV,int qS,int qN,int qCo,.isl 8 qCa,int qCv,int qCf,int qCk,int qXk,int qXn,str qXt]]) (v':=.tup [.val (.slice none 0 0),.val (.slice none 0 0),int 17]) (H':=[]) rfl rfl rfl po (zg kq) rfl rfl ?_
  have fz:=k17
  refine Cq ?_
  refine goC 60 ?_
  refine zf ?_
  refine Aq ?_
  exact fE [.gone,.gone]
 | some S =>
  rw [hdq] at gd2
  have po:=O_derivedS hok hdq
  have hGr:=hG.der q hGq S hdq
  have hdo:=der_ok hok hdq
  have kes:=Ed.closedL' S.1
  have krs:=Pat.closedL' S.2
  have kri:=Pat.closedI S.2
  have hrl:=zp Pat.enc S.2
  have hrn:S.2.length≤2048:=by have:=hdo.few;have:=hdo.le;omega
  obtain ⟨es,rs⟩:=S
  dsimp only at po hGr kes krs kri hrl hrn gd2
  generalize hR1:zy Pat.enc rs=rl at *
  generalize zy Ed.enc es=el at *
  generalize es.length=n2 at *
  obtain ⟨qO,qA,qT,qV,qS,qN,qCo,qCa,qCv,qCf,qCk,qXk,qXn,qXt,hqf⟩:=Pat.form q
  rw [hqf] at hat kq po
  have fz:=n1
  refine Cq ?_
  have fz:=And.intro n1 hat
  refine Cr ?_
  have fz:=hat
  refine Cq ?_
  refine wH (args:=[.agg [int qO,.isl 14 qA,int qT,int qV,int qS,int qN,int qCo,.isl 8 qCa,int qCv,int qCf,int qCk,int qXk,int qXn,str qXt]]) (v':=.tup [.sl 2 17 0 n2,.isl 14 rl,int 0]) (H':=[.arr 17 el]) rfl rfl rfl po (zg kq) ?_ (uC kes) ?_
  · show AV.tup [_,AV.isl 14 (AV.subL _ rl),_]=_
    rw [zw _ krs];rfl
  have fz:=k0
  refine Cq ?_
  refine goC 60 ?_
  refine ze (ι:=List Pat × List Pat × Int × List Pat) (fun p=>([(39,int p.2.2.1),(38,int (lenA rl)),(37,.isl 14 rl),(6,int i),(5,.sl 1 14 0 p.2.2.2.length)],[.cells [int pO,.isl 14 pA,int pT,int pV,int pS,int pN,int pCo,.isl 8 pCa,int pCv,int pCf,int pCk,int pXk,int pXn,str pXt],.arr 14 (zy Pat.enc p.2.2.2)])) (fun p=>rs=p.1++p.2.1∧p.2.2.1=p.1.length∧wQ o rs=wQ p.2.2.2 p.2.1∧p.2.2.2.length≤256+p.1.length∧∀ q∈p.2.2.2,G q) (fun p=>p.2.1.length) ([],rs,0,o) ⟨rfl,rfl,rfl,by simp;omega,gG⟩ ?_ ?_
  · dsimp only
    rw [← hO1,← hn]
    exact ya [.to 0,.to 1] [some 0,some 1] ⟨⟨by simp,rfl⟩,⟨by simp,rfl⟩,trivial⟩ ⟨zx (b:=0) rfl rfl rfl (by rw [zw _ kcl];exact WkL.refl _ _),zR (b:=1) rfl rfl rfl rfl kol,trivial⟩ ⟨.refl _,.refl _,.cl kri,.refl _,.refl _,trivial⟩
  rintro ⟨d,r,j,o2⟩ ⟨h1,hj,ha,hl2,hG2⟩
  dsimp only at h1 hj ha hl2 hG2 ⊢
  have kol2:=Pat.closedL' o2
  have hol2:=zp Pat.enc o2
  have g3:rs.length=d.length+r.length:=by rw [h1,List.length_append]
  cases r with
  | nil =>
   have m1:iLt j (lenA rl)=false:=by simp only [ee];simp at g3;simp;omega
   have ha2:wQ o rs=o2:=ha
   rw [ha2] at gd2
   by_cases hb:256<o2.length
   · rw [if_pos hb] at gd2
     rw [gd2]
     generalize zy Pat.enc o2=ol2 at *
     generalize o2.length=n3 at *
     have m2:iLt 256 (iOf n3)=true:=by simp only [ee];simp;omega
     have fz:=m1
     refine Cq ?_
     refine Cr ?_
     refine zk ?_
     have fz:=m2
     refine Cq ?_
     refine goC 60 ?_
     refine zf ?_
     refine Aq ?_
     exact fE [.gone,.gone]
   rw [if_neg hb] at gd2
   have hi2:iAdd .i64 i 1=((k+1:Nat):Int):=by
    rw [gi];exact yh e_iAdd rfl (by omega)
   have hlen:o.length≤o2.length:=by rw [← ha2];exact addAll_le rs o
   obtain ⟨ol2,hO2⟩:∃ ol2,ol2=zy Pat.enc o2:=⟨_,rfl⟩
   obtain ⟨n3,hn3⟩:∃ n3,n3=o2.length:=⟨_,rfl⟩
   rw [← hO2,← hn3]
   rw [← hO2] at kol2
   have m2:iLt 256 (iOf n3)=false:=by simp only [ee];simp;omega
   have fz:=m1
   refine Cq ?_
   refine Cr ?_
   refine zk ?_
   have fz:=m2
   refine Cq ?_
   refine goC 60 ?_
   refine zm (o2,k+1,iAdd .i64 i 1) ⟨hi2,by rw [gd2,show 257 - (k+1)=256 - k by omega],by dsimp only;omega,by dsimp only;omega,hG2⟩ (by dsimp only;omega) ?_
   dsimp only
   rw [← hO2,← hn3]
   exact yz ⟨.refl _,.refl _,trivial⟩
  | cons z r =>
   rw [List.length_cons] at g3
   have m1:iLt j (lenA rl)=true:=by simp only [ee];simp;omega
   have hzG:=hGr z (by rw [h1];simp)
   have hzs:=(hG.ok z hzG).sm
   have pi:=P_index o2 z hzs (by omega)
   have hz2:atA rl j=z.enc:=by
    simp only [ee]
    rw [← hR1,zu,h1,hj]
    simp
   have kz:=Pat.closed z
   have hi2:iAdd .i64 j 1=((d++[z]).length:Int):=by rw [List.length_append];exact yh e_iAdd hj (by omega)
   have hsq:zy Pat.enc (o2++[z])=zy Pat.enc o2++[z.enc]:=by rw [zu,zu,List.map_append];rfl
   have kol3:=Pat.closedL' (o2++[z])
   obtain ⟨ol2,hO2⟩:∃ ol2,ol2=zy Pat.enc o2:=⟨_,rfl⟩
   obtain ⟨ol3,hO3⟩:∃ ol3,ol3=zy Pat.enc (o2++[z]):=⟨_,rfl⟩
   obtain ⟨n3,hn3⟩:∃ n3,n3=o2.length:=⟨_,rfl⟩
   obtain ⟨v,hv⟩:∃ v,v=x9 0 o2 z:=⟨_,rfl⟩
   have ha3:wQ o rs=wQ (if v<0 then o2++[z] else o2) r:=by rw [ha,wQ,hv]
   rw [← hO2,← hn3]
   rw [← hO2] at kol2 hol2 hsq pi
   rw [← hO3] at hsq kol3
   rw [← hn3] at hol2 hl2
   rw [← hv] at pi
   obtain ⟨zO,zA,zT,zV,zS,zN,zCo,zCa,zCv,zCf,zCk,zXk,zXn,zXt,hzf⟩:=Pat.form z
   rw [hzf] at hz2 kz pi hsq
   have fz:=m1
   refine Cq ?_
   have fz:=And.intro m1 hz2
   refine Cr ?_
   have fz:=hz2
   refine Cq ?_
   refine vT rfl rfl pi rfl ⟨[.gone,.isl 14 ol2],⟨trivial,⟨_,rfl,(zw _ kol2).symm⟩,trivial⟩,⟨.of (xm rfl hol2.symm),.cl kz,trivial⟩⟩ ?_
   by_cases hv0:v<0
   · rw [if_pos hv0] at ha3
     have m2:iLt v 0=true:=by simp only [ee];simpa using hv0
     obtain ⟨n4,hn4⟩:∃ n4,n4=n3+1:=⟨_,rfl⟩
     have g4:n3≤2400:=by omega
     have f1:addN n3 (lenN (partA [.agg [int zO,.isl 14 zA,int zT,int zV,int zS,int zN,int zCo,.isl 8 zCa,int zCv,int zCf,int zCk,int zXk,int zXn,str zXt]] 0 1))=n4:=by simp only [ee];rw [hn4];simp
     have f2:catA (dropA ol2 0) (partA [.agg [int zO,.isl 14 zA,int zT,int zV,int zS,int zN,int zCo,.isl 8 zCa,int zCv,int zCf,int zCk,int zXk,int zXn,str zXt]] 0 1)=ol3:=by simp only [ee];rw [hsq];simp
     have fz:=m2
     refine Cq ?_
     have fz:=And.intro m2 (And.intro f1 f2)
     refine Cr ?_
     have fz:=And.intro f1 f2
     refine Cq ?_
     refine zm (d++[z],r,iAdd .i64 j 1,o2++[z]) ⟨by simp [h1],hi2,ha3,by show (o2++[z]).length≤256+(d++[z]).length;rw [List.length_append,List.length_append];simp;omega,?_⟩ (by simp) ?_
     · intro y hy
       rcases List.mem_append.1 hy with hy | hy
       · exact hG2 y hy
       simp at hy;rw [hy];exact hzG
     dsimp only
     have hl4:(o2++[z]).length=n4:=by rw [List.length_append,← hn3,hn4];rfl
     rw [← hO3,hl4]
     exact ya [.to 0,.gone,.gone,.gone,.to 1] [some 0,some 4] ⟨⟨by simp,rfl⟩,trivial,trivial,trivial,⟨by simp,rfl⟩,trivial⟩ ⟨zx (b:=0) rfl rfl rfl (by rw [zw _ kcl];exact WkL.refl _ _),zR (b:=4) rfl rfl rfl rfl kol3,trivial⟩ ⟨.refl _,.refl _,.cl kri,.refl _,.refl _,trivial⟩
   rw [if_neg hv0] at ha3
   have m2:iLt v 0=false:=by simp only [ee];simp;omega
   have fz:=m2
   refine Cq ?_
   refine Cr ?_
   refine Aq ?_
   refine zm (d++[z],r,iAdd .i64 j 1,o2) ⟨by simp [h1],hi2,ha3,by show o2.length≤256+(d++[z]).length;rw [List.length_append];omega,hG2⟩ (by simp) ?_
   dsimp only
   rw [← hO2,← hn3]
   exact ya [.to 0,.to 1,.gone] [some 0,some 1] ⟨⟨by simp,rfl⟩,⟨by simp,rfl⟩,trivial,trivial⟩ ⟨zx (b:=0) rfl rfl rfl (by rw [zw _ kcl];exact WkL.refl _ _),zR (b:=1) rfl rfl rfl rfl kol2,trivial⟩ ⟨.refl _,.refl _,.cl kri,.refl _,.refl _,trivial⟩
def stO (l:List Pat):Nat→List Pat→List (List AV)
 | _,[]=>[]
 | i,p :: r=>[int i,.isl 17 (zy Ed.enc (vH l i p))] :: stO l (i+1) r
theorem stO_len (l:List Pat):∀ (r:List Pat) (i:Nat),(stO l i r).length=r.length
 | [],i=>rfl
 | p :: r,i=>by rw [stO,List.length_cons,List.length_cons,stO_len l r]
theorem stO_at (l:List Pat):∀ (r:List Pat) (i j:Nat) (q:Pat),r[j]? = some q→(stO l i r)[j]? = some [int ((i+j:Nat):Int),.isl 17 (zy Ed.enc (vH l (i+j) q))]
 | [],i,j,q,h=>by simp at h
 | p :: r,i,0,q,h=>by
  simp at h;subst h;rfl
 | p :: r,i,j+1,q,h=>by
  have:=stO_at l r (i+1) j q (by simpa using h)
  rw [stO,List.getElem?_cons_succ,this,show i+1+j=i+(j+1) by omega]
theorem stO_closed (l:List Pat):∀ (r:List Pat) (i:Nat),∀ a∈stO l i r,AV.closedL a=true
 | [],i,a,h=>by cases h
 | p :: r,i,a,h=>by
  rw [stO] at h
  rcases List.mem_cons.1 h with rfl | h
  · have:=Ed.closedI (vH l i p)
    rw [AV.closedL,AV.closedL,this];rfl
  exact stO_closed l r (i+1) a h
theorem stO_two (l:List Pat):∀ (r:List Pat) (i:Nat),∀ a∈stO l i r,2=a.length
 | [],i,a,h=>by cases h
 | p :: r,i,a,h=>by
  rw [stO] at h
  rcases List.mem_cons.1 h with rfl | h
  · rfl
  exact stO_two l r (i+1) a h
structure StOk (l:List Pat):Prop where
 few:l.length≤256
 ok:∀ q∈l,RsOk q
 chk:∀ q∈l,q.chkR=0
 der:∀ q∈l,∃ S,q.der=some S∧∀ r∈S.2,r.Sm
theorem enters_compile_states_1 : xu EE.P 158:=enters_of rfl (by decide) T158.2
theorem X_states (l:List Pat) (hl:StOk l):XCall EE.P EE.G 158 [.iptr [.isl 14 (zy Pat.enc l)]] (stO l 0 l):=by
 refine ⟨enters_compile_states_1,fun X hS blk hy=>?_⟩
 rw [stO_len]
 have hat:=fun (j:Nat) (q:Pat) (h:l[j]? = some q)=>stO_at l l 0 j q h
 have kl:=Pat.closedI l
 have hll:=zp Pat.enc l
 have hP1:∃ pl,pl=zy Pat.enc l:=⟨_,rfl⟩
 obtain ⟨pl,hP1⟩:=hP1
 rw [← hP1] at kl hll ⊢
 have hfew:=hl.few
 refine zo ?_;unhygienic intros
 have nt:bNot true=false:=by simp only [ee];rfl
 have nf:bNot false=true:=by simp only [ee];rfl
 refine rB T158 [] ?_
 refine Aq ?_
 refine ze (ι:=List Pat × List Pat × Int × Nat) (fun p=>([(12,int p.2.2.1),(11,int (lenA pl)),(10,.isl 14 pl),(0,yv blk),(1,.iptr [.isl 14 pl])],[.ext p.2.2.2 false])) (fun p=>l=p.1++p.2.1∧p.2.2.1=p.1.length∧p.2.2.2=p.1.length) (fun p=>p.2.1.length) ([],l,0,0) ⟨rfl,rfl,rfl⟩ ?_ ?_
 · exact yz ⟨.refl _,.refl _,.refl _,.refl _,.refl _,trivial⟩
 rintro ⟨d,r,i,c⟩ ⟨g1,gi,gc⟩
 dsimp only at g1 gi gc ⊢
 have g3:l.length=d.length+r.length:=by rw [g1,List.length_append]
 cases r with
 | nil =>
  have m1:iLt i (lenA pl)=false:=by simp only [ee];simp at g3;simp;omega
  have hcl:l.length=c:=by simp at g3;omega
  rw [hcl]
  have fz:=m1
  refine Cq ?_
  refine goC 60 ?_
  refine zk ?_
  refine Aq ?_
  exact oE_norm (fun _=>.inl rfl)
 | cons q r =>
  rw [List.length_cons] at g3
  have hq:l[d.length]? = some q:=by rw [g1];simp
  have hqm:=List.mem_of_getElem? hq
  have hout:=hat _ _ hq
  rw [Nat.zero_add,← gi,← gc] at hout
  have m1:iLt i (lenA pl)=true:=by simp only [ee];simp;omega
  have hel:atA pl i=q.enc:=by
   simp only [ee]
   rw [hP1,zu,g1,gi]
   simp
  have hi2:iAdd .i64 i 1=((d++[q]).length:Int):=by rw [List.length_append];exact yh e_iAdd gi (by omega)
  have hok:=hl.ok q hqm
  obtain ⟨S,hdq,hsm⟩:=hl.der q hqm
  have po:=(O_DeriveS hok (hl.chk q hqm) hdq).toX X hS
  have hdo:=der_ok hok hdq
  have hfind:=fun z (_:z∈S.2)=>(P_find l z (fun q hq=>(hl.ok q hq).sm) (by omega)).toX X hS
  rw [← hP1] at hfind
  have hrow:vH l c q=S.1.map (toC l S.2 c):=by rw [vH,hdq]
  rw [hrow] at hout
  obtain ⟨es,rs⟩:=S
  have hes:=hdo.few
  have hre:=hdo.le
  have hto:=hdo.to
  dsimp only at po hfind hsm hout hes hre hto
  have kes:=Ed.closedL' es
  have krs:=Pat.closedL' rs
  have kri:=Pat.closedI rs
  have hrl:=zp Pat.enc rs
  have hel2:=zp Ed.enc es
  obtain ⟨rl,hR1⟩:∃ rl,rl=zy Pat.enc rs:=⟨_,rfl⟩
  obtain ⟨el,hE1⟩:∃ el,el=zy Ed.enc es:=⟨_,rfl⟩
  obtain ⟨n,hn⟩:∃ n,n=es.length:=⟨_,rfl⟩
  rw [← hR1,← hE1,← hn] at po
  rw [← hR1] at krs kri hrl
  rw [← hE1] at kes hel2
  rw [← hn] at hel2
  have kq:=Pat.closed q
  obtain ⟨qO,qA,qT,qV,qS,qN,qCo,qCa,qCv,qCf,qCk,qXk,qXn,qXt,hqf⟩:=Pat.form q
  rw [hqf] at hel kq po
  have kqs:AV.closedL [int qO,.isl 14 qA,int qT,int qV,int qS,int qN,int qCo,.isl 8 qCa,int qCv,int qCf,int qCk,int qXk,int qXn,str qXt]=true:=by simpa only [AV.closed] using kq
  clear hqf hrow hat
  have fz:=m1
  refine Cq ?_
  have fz:=And.intro m1 hel
  refine Cr ?_
  have fz:=hel
  refine Cq ?_
  refine wH (args:=[.agg [int qO,.isl 14 qA,int qT,int qV,int qS,int qN,int qCo,.isl 8 qCa,int qCv,int qCf,int qCk,int qXk,int qXn,str qXt]]) (v':=.tup [.sl 2 17 0 n,.isl 14 rl,int 0]) (H':=[.arr 17 el]) rfl rfl rfl po (zg kq) ?_ (uC kes) ?_
  · show AV.tup [_,AV.isl 14 (AV.subL _ rl),_]=_
    rw [zw _ krs];rfl
  refine Aq ?_
  refine ze (ι:=List Ed × List Ed × Int) (fun p=>([(25,int p.2.2),(24,int (iOf n)),(6,.isl 14 rl),(5,.sl 2 17 0 n),(3,int i),(12,int i),(11,int (lenA pl)),(10,.isl 14 pl),(0,yv blk),(1,.iptr [.isl 14 pl])],[.ext c false,.cells [int qO,.isl 14 qA,int qT,int qV,int qS,int qN,int qCo,.isl 8 qCa,int qCv,int qCf,int qCk,int qXk,int qXn,str qXt],.arr 17 (zy Ed.enc (p.1.map (toC l rs c)++p.2.1))])) (fun p=>es=p.1++p.2.1∧p.2.2=p.1.length) (fun p=>p.2.1.length) ([],es,0) ⟨rfl,rfl⟩ ?_ ?_
  · dsimp only
    rw [show zy Ed.enc (List.map (toC l rs c) []++es)=el from hE1.symm]
    exact yz ⟨.refl _,.refl _,.refl _,.refl _,.refl _,.refl _,.refl _,.refl _,.refl _,.refl _,trivial⟩
  rintro ⟨d2,r2,k⟩ ⟨h1,hk⟩
  dsimp only at h1 hk ⊢
  have h3:es.length=d2.length+r2.length:=by rw [h1,List.length_append]
  cases r2 with
  | nil =>
   have m2:iLt k (iOf n)=false:=by simp only [ee];simp at h3;simp;omega
   have h4:es=d2:=by rw [h1,List.append_nil]
   have hrw:zy Ed.enc (List.map (toC l rs c) d2++[])=zy Ed.enc (List.map (toC l rs c) es):=by rw [List.append_nil,h4]
   rw [hrw]
   have kro:=Ed.closedL' (List.map (toC l rs c) es)
   have krI:=Ed.closedI (List.map (toC l rs c) es)
   have hrn:=zp Ed.enc (List.map (toC l rs c) es)
   rw [List.length_map,← hn] at hrn
   generalize zy Ed.enc (List.map (toC l rs c) es)=row at *
   have klI:(AV.iptr [.isl 14 pl]).closed=true:=by rw [AV.closed,AV.closedL,kl];rfl
   have fz:=m2
   refine Cq ?_
   refine Cr ?_
   refine zk ?_
   refine Cq ?_
   refine wW (wX (F':=[(55,.isl 17 row),(54,int i),(53,yv blk),(12,int i),(11,int (lenA pl)),(10,.isl 14 pl),(0,yv blk),(1,.iptr [.isl 14 pl])]) 2 [.isl 17 row] rfl ⟨.ext,.cells (.cl kqs),trivial⟩ ⟨⟨_,rfl,(zw _ kro).symm⟩,trivial⟩ ⟨.of (xf rfl hrn.symm),.refl _,.refl _,.refl _,.refl _,.cl kl,.refl _,.cl klI,trivial⟩ (by simp)) ?_
   refine w9 hy hout rfl rfl rfl rfl (WkL.refl _ _) rfl rfl ?_ ?_
   · have fz:=And.intro nt nf
     refine Cq ?_
     refine goC 60 ?_
     refine zm (d++[q],r,iAdd .i64 i 1,c+1) ⟨by simp [g1],hi2,by simp [gc]⟩ (by simp) ?_
     dsimp only
     refine xJ (H:=[.ext (c+1) false]) [] (KpA.mem ?_) trivial ?_ ?_
     · exact ⟨.ext,trivial⟩
     · exact ⟨.refl _,.refl _,.cl kl,.refl _,.cl klI,trivial⟩
     simp
   have fz:=And.intro nt nf
   refine Cq ?_
   refine goC 60 ?_
   refine zf ?_
   refine Aq ?_
   exact tA (fun _=>.inr ⟨_,rfl⟩)
  | cons x r2 =>
   rw [List.length_cons] at h3
   have m2:iLt k (iOf n)=true:=by simp only [ee];simp;omega
   have kar:=Ed.closedL' (List.map (toC l rs c) d2++x :: r2)
   have hi3:iAdd .i64 k 1=((d2++[x]).length:Int):=by rw [List.length_append];exact yh e_iAdd hk (by omega)
   have hxt:=hto x (by rw [h1];simp)
   have hex:atN (zy Ed.enc (List.map (toC l rs c) d2++x :: r2)) (idxN 0 k)=x.enc:=by
    simp only [ee]
    rw [zu,hk]
    simp [List.getD_eq_getElem?_getD]
   have har:=zp Ed.enc (List.map (toC l rs c) d2++x :: r2)
   rw [List.length_append,List.length_map,List.length_cons,show d2.length+(r2.length+1)=n by omega] at har
   obtain ⟨ar,hA⟩:∃ ar,ar=zy Ed.enc (List.map (toC l rs c) d2++x :: r2):=⟨_,rfl⟩
   rw [← hA] at hex kar har ⊢
   obtain ⟨co,ec,cv,cf,ck,xk,xn,xt,he,hec⟩:=x.form
   rw [he] at hex
   have hTC:∀ v:Int,({ x with frm:=c,to:=v }:Ed).enc=.agg [int c,int v,int x.var,int x.ty,int co,.isl 8 ec,int cv,int cf,int ck,int xk,int xn,str xt,.isl 1 (zy int x.opens),.isl 1 (zy int x.closes),.isl 8 (zy Ex.enc x.checks),.isl 2 (zy wy x.limits),.isl 1 (zy int x.inside)]:=fun v=>by
    show AV.agg ([int c,int v,int x.var,int x.ty]++x.cond.enc.cells++_)=_
    rw [hec];rfl
   generalize zy int x.opens=e1 at *
   generalize zy int x.closes=e2 at *
   generalize zy Ex.enc x.checks=e3 at *
   generalize zy wy x.limits=e4 at *
   generalize zy int x.inside=e5 at *
   generalize htv:x.to=tv at *
   have hkn:k.toNat<ar.length:=by omega
   have hex2:atN (setA ar (idxN 0 k) (.agg [int i,int tv,int x.var,int x.ty,int co,.isl 8 ec,int cv,int cf,int ck,int xk,int xn,str xt,.isl 1 e1,.isl 1 e2,.isl 8 e3,.isl 2 e4,.isl 1 e5])) (idxN 0 k)=.agg [int i,int tv,int x.var,int x.ty,int co,.isl 8 ec,int cv,int cf,int ck,int xk,int xn,str xt,.isl 1 e1,.isl 1 e2,.isl 8 e3,.isl 2 e4,.isl 1 e5]:=by
    simp only [ee]
    simp [List.getD_eq_getElem?_getD,hkn]
   obtain ⟨ar3,hA3⟩:∃ ar3,ar3=zy Ed.enc (List.map (toC l rs c) (d2++[x])++r2):=⟨_,rfl⟩
   have kar3:=Ed.closedL' (List.map (toC l rs c) (d2++[x])++r2)
   rw [← hA3] at kar3
   have hic:i=(c:Int):=by rw [gi,gc]
   have hset:∀ v:AV,v=(toC l rs c x).enc→ar.set k.toNat v=ar3:=fun v hv=>by
    rw [hv,hA,hA3,zu,zu,hk]
    simp []
   have fz:=m2
   refine Cq ?_
   refine goB hX 1 (by conv=>lhs;cbv;try simp only [m2,hex,hex2,List.drop_zero];cbv;try simp only [m2,hex,hex2,List.drop_zero];cbv;try simp only [m2,hex,hex2,List.drop_zero];cbv;try simp only [m2,hex,hex2,List.drop_zero];cbv) ?_
   refine goB hX 0 (by conv=>lhs;cbv;try simp only [hex,hex2,List.drop_zero];cbv;try simp only [hex,hex2,List.drop_zero];cbv;try simp only [hex,hex2,List.drop_zero];cbv;try simp only [hex,hex2,List.drop_zero];cbv) ?_
   by_cases ht0:0≤tv
   · have m3:iLe 0 tv=true:=by simp only [ee];simpa using ht0
     have hlt:tv.toNat<rs.length:=by omega
     obtain ⟨z,hz⟩:∃ z,rs[tv.toNat]? = some z:=⟨_,List.getElem?_eq_getElem hlt⟩
     have hzm:=List.mem_of_getElem? hz
     have pf:=hfind z hzm
     have hzr:atA rl tv=z.enc:=by
      simp only [ee]
      rw [hR1,zu]
      simp [List.getD_eq_getElem?_getD,List.getElem?_map,hz]
     have htc:(toC l rs c x).enc=.agg [int i,int (x9 0 l z),int x.var,int x.ty,int co,.isl 8 ec,int cv,int cf,int ck,int xk,int xn,str xt,.isl 1 e1,.isl 1 e2,.isl 8 e3,.isl 2 e4,.isl 1 e5]:=by
      rw [show toC l rs c x = { x with frm:=c,to:=x9 0 l z } from by unfold toC;rw [htv,if_pos ht0,List.getD_eq_getElem?_getD,hz];rfl,hic]
      exact hTC _
     have kz:=Pat.closed z
     generalize x9 0 l z=w at *
     obtain ⟨zO,zA,zT,zV,zS,zN,zCo,zCa,zCv,zCf,zCk,zXk,zXn,zXt,hzf⟩:=Pat.form z
     rw [hzf] at hzr kz pf
     have fz:=m3
     refine Cq ?_
     refine goB hX 1 (by conv=>lhs;cbv;try simp only [m3,hex2,hzr,List.drop_zero];cbv;try simp only [m3,hex2,hzr,List.drop_zero];cbv;try simp only [m3,hex2,hzr,List.drop_zero];cbv;try simp only [m3,hex2,hzr,List.drop_zero];cbv) ?_
     have h8:setA (setA ar (idxN 0 k) (.agg [int i,int tv,int x.var,int x.ty,int co,.isl 8 ec,int cv,int cf,int ck,int xk,int xn,str xt,.isl 1 e1,.isl 1 e2,.isl 8 e3,.isl 2 e4,.isl 1 e5])) (idxN 0 k) (.agg [int i,int w,int x.var,int x.ty,int co,.isl 8 ec,int cv,int cf,int ck,int xk,int xn,str xt,.isl 1 e1,.isl 1 e2,.isl 8 e3,.isl 2 e4,.isl 1 e5])=ar3:=by
      simp only [ee]
      rw [Nat.zero_add,List.set_set]
      exact hset _ htc.symm
     refine zX rfl (by conv=>lhs;cbv) rfl ?_
     refine ru hX (by conv=>lhs;cbv;try simp only [hex2,hzr,List.drop_zero];cbv;try simp only [hex2,hzr,List.drop_zero];cbv;try simp only [hex2,hzr,List.drop_zero];cbv;try simp only [hex2,hzr,List.drop_zero];cbv) ?_ ?_
     · simp only [Cd.ok,ee];(simp only [List.length_set];and_intros<;>first | omega | rfl)
     refine xL (args:=[.isl 14 pl,.agg [int zO,.isl 14 zA,int zT,int zV,int zS,int zN,int zCo,.isl 8 zCa,int zCv,int zCf,int zCk,int zXk,int zXn,str zXt]]) rfl rfl rfl pf (by rw [AV.closedL,AV.closedL,AV.closedL,kl,kz];rfl) ?_
     refine ru hX (by conv=>lhs;cbv;try simp only [hex2,hzr,List.drop_zero,h8];cbv;try simp only [hex2,hzr,List.drop_zero,h8];cbv;try simp only [hex2,hzr,List.drop_zero,h8];cbv;try simp only [hex2,hzr,List.drop_zero,h8];cbv) ?_ ?_
     · simp only [Cd.ok,ee];(simp only [List.length_set];and_intros<;>first | omega | rfl)
     refine zK ⟨rfl,?_,?_⟩
     · simp only [zJ,zd,List.cons_append,List.nil_append,List.append_nil];and_intros<;>first | trivial | (intro hp;first | rfl | exact absurd (show false=true from hp) Bool.false_ne_true)
     have fz:=h8
     refine goC 60 ?_
     refine zm (d2++[x],r2,iAdd .i64 k 1) ⟨by simp [h1],hi3⟩ (by simp) ?_
     dsimp only
     rw [← hA3]
     show Ent _ _ _ _ [_,_,.arr 17 (setA (setA ar (idxN 0 k) (.agg [int i,int tv,int x.var,int x.ty,int co,.isl 8 ec,int cv,int cf,int ck,int xk,int xn,str xt,.isl 1 e1,.isl 1 e2,.isl 8 e3,.isl 2 e4,.isl 1 e5])) (idxN 0 k) (.agg [int i,int w,int x.var,int x.ty,int co,.isl 8 ec,int cv,int cf,int ck,int xk,int xn,str xt,.isl 1 e1,.isl 1 e2,.isl 8 e3,.isl 2 e4,.isl 1 e5]))] _ _
     rw [h8]
     refine yz ?_
     exact ⟨.refl _,.refl _,.refl _,.refl _,.refl _,.refl _,.refl _,.refl _,.refl _,.refl _,trivial⟩
   have m3:iLe 0 tv=false:=by simp only [ee];simp;omega
   have htc:(toC l rs c x).enc=.agg [int i,int tv,int x.var,int x.ty,int co,.isl 8 ec,int cv,int cf,int ck,int xk,int xn,str xt,.isl 1 e1,.isl 1 e2,.isl 8 e3,.isl 2 e4,.isl 1 e5]:=by
    rw [show toC l rs c x = { x with frm:=c,to:=tv } from by unfold toC;rw [htv,if_neg ht0],hic]
    exact hTC _
   have h7:setA ar (idxN 0 k) (.agg [int i,int tv,int x.var,int x.ty,int co,.isl 8 ec,int cv,int cf,int ck,int xk,int xn,str xt,.isl 1 e1,.isl 1 e2,.isl 8 e3,.isl 2 e4,.isl 1 e5])=ar3:=by simp only [ee];rw [Nat.zero_add];exact hset _ htc.symm
   have fz:=m3
   refine Cq ?_
   have fz:=And.intro m3 h7
   refine Cr ?_
   have fz:=h7
   refine goC 60 ?_
   refine zm (d2++[x],r2,iAdd .i64 k 1) ⟨by simp [h1],hi3⟩ (by simp) ?_
   dsimp only
   rw [← hA3]
   refine yz ?_
   exact ⟨.refl _,.refl _,.refl _,.refl _,.refl _,.refl _,.refl _,.refl _,.refl _,.refl _,trivial⟩
def sO (S:List Br × Int) (x:Pat):List Br × Int :=
 if yP (fun z=>wJ z ⟨S.2,x.ty,x.cond,[]⟩) S.1 0<0 then (S.1++[⟨S.2,x.ty,x.cond,[]⟩],S.1.length) else (S.1,yP (fun z=>wJ z ⟨S.2,x.ty,x.cond,[]⟩) S.1 0)
def tj : List Pat→List Br × Int→List Br × Int
 | [],S=>S
 | x :: r,S=>tj r (sO S x)
structure Cpd where
 p:Pat
 a:Au
 l:List Pat
def Cpd.st (y:Cpd):Int:=if y.p.whl then 0 else if 0≤x9 0 y.l y.p.rst then x9 0 y.l y.p.rst else 0
def Cpd.tail (y:Cpd) (i:Nat):Tl:=⟨i,upto y.p.pre.length,y.p.whl,y.st⟩
def vn (i:Nat) (y:Cpd) (B:List Br):List Br :=
 (tj y.p.pre (B,0)).1.modify (tj y.p.pre (B,0)).2.toNat fun b=>{ b with queries:=[y.tail i] }
def v5 : Nat→List Cpd→List Br→List Br
 | _,[],B=>B
 | i,y :: r,B=>v5 (i+1) r (vn i y B)
structure Cpd.Ok (y:Cpd):Prop where
 sm:y.p.Sm
 chk:y.p.chk=0
 cmp:rj y.p y.a y.l
 few:y.l.length≤256
 lsm:∀ z∈y.l,z.Sm
 rst:y.p.whl=false→y.p.rst.Sm∧y.p.rst.chkR=0
 ev:∀ x∈y.p.pre,x.cond.Sm
 pre:y.p.pre.length≤64
def sT : Nat→List Cpd→List Br→Prop
 | _,[],B=>B.length≤256
 | i,y :: r,B=>y.Ok∧B.length≤256∧(∃ b,(tj y.p.pre (B,0)).1[(tj y.p.pre (B,0)).2.toNat]? = some b∧b.queries=[]∧0≤(tj y.p.pre (B,0)).2)∧sT (i+1) r (vn i y B)
theorem osrc_arrW {H:zz} {M:Nat} {σ:Nat→Sub} {τ:Nat→Option Nat} {b' b k:Nat} {es es':List AV} (hH:H[b]? = some (.arr k es)) (ht:τ b'=some b) (hs:σ b=.to b') (hw:WkL M (AV.subL σ es) es') (h1:∀ e∈es,e.cells.length=k) (h2:∀ e∈es',e.cells.length=k):sM H M σ τ b' (.arr k es') :=
 .some b _ _ hH ht hs (.arr k es es' hw fun i e e' a b=>by rw [h1 e (List.mem_of_getElem? a),h2 e' (List.mem_of_getElem? b)])
def root : Br:=⟨-1,0,Ex0,[]⟩
theorem Br.rform0 (v t:Int) (c:Ex) {co ec cv cf ck xk xn xt} (h:c.enc=.agg [int co,.isl 8 ec,int cv,int cf,int ck,int xk,int xn,str xt]):(⟨v,t,c,[]⟩:Br).row=.agg [int v,int t,int co,.isl 8 ec,int cv,int cf,int ck,int xk,int xn,str xt,.val (.slice none 0 0)]:=by
 rw [Br.row,h];rfl
theorem root_row : root.row=.agg [int (-1),int 0,int 0,.isl 8 [],int 0,int 0,int 0,int 0,int 0,str ⟨#[]⟩,.val (.slice none 0 0)]:=by
 have hE0:Ex0.enc=.agg [int 0,.isl 8 [],int 0,int 0,int 0,int 0,int 0,str ⟨#[]⟩]:=by rw [Ex0,Ex.enc_mk,zu];rfl
 exact Br.rform0 _ _ _ hE0
theorem tO : Ex0.Sm:=by unfold Ex.Sm;decide
theorem bldE_sm {S:List Br × Int} {x:Pat} (h:∀ b∈S.1,b.cond.Sm) (hx:x.cond.Sm):∀ b∈(sO S x).1,b.cond.Sm:=by
 unfold sO
 split
 · intro b hb
   simp only [List.mem_append,List.mem_singleton] at hb
   rcases hb with hb | rfl
   · exact h b hb
   exact hx
 exact h
theorem bldP_sm : ∀ (l:List Pat) {S:List Br × Int},(∀ b∈S.1,b.cond.Sm)→(∀ x∈l,x.cond.Sm)→∀ b∈(tj l S).1,b.cond.Sm
 | [],S,h,_=>h
 | x :: r,S,h,hx=>bldP_sm r (bldE_sm h (hx x (by simp))) fun y hy=>hx y (by simp [hy])
theorem modify_sm (B:List Br) (i:Nat) (q:List Tl) (h:∀ b∈B,b.cond.Sm):∀ b∈B.modify i fun b=>{ b with queries:=q },b.cond.Sm:=by
 intro b hb
 obtain ⟨j,hj⟩:=List.mem_iff_getElem?.1 hb
 rw [List.getElem?_modify] at hj
 cases hk:B[j]? with
 | none=>rw [hk] at hj;simp at hj
 | some c =>
  rw [hk] at hj
  have hc:=h c (List.mem_of_getElem? hk)
  simp only [Option.map_eq_map,Option.map_some] at hj
  obtain rfl:=Option.some.inj hj
  split<;>exact hc
theorem bldOne_sm (i:Nat) (y:Cpd) (B:List Br) (h:∀ b∈B,b.cond.Sm) (hx:∀ x∈y.p.pre,x.cond.Sm):∀ b∈vn i y B,b.cond.Sm :=
 modify_sm _ _ _ (bldP_sm _ h hx)
theorem bldE_len (S:List Br × Int) (x:Pat):S.1.length≤(sO S x).1.length∧(sO S x).1.length≤S.1.length+1:=by
 unfold sO
 split
 · simp
 simp
theorem map_modify_set {α β:Type} (f:α→α) (g:α→β) (z:α):∀ (l:List α) (n:Nat),l[n]? = some z→(l.modify n f).map g=(l.map g).set n (g (f z))
 | [],n,h=>by simp at h
 | x :: r,0,h=>by simp at h;subst h;simp
 | x :: r,n+1,h=>by
  simp only [List.getElem?_cons_succ] at h
  simp [List.modify_succ_cons,map_modify_set f g z r n h]
theorem subL_set (σ:Nat→Sub) (v:AV):∀ (L:List AV) (i:Nat),AV.closedL L=true→AV.subL σ (L.set i v)=L.set i (v.sub σ)
 | [],i,h=>rfl
 | x :: r,0,h=>by
  rw [AV.closedL,Bool.and_eq_true] at h
  rw [List.set_cons_zero,AV.subL,zw _ h.2,List.set_cons_zero]
 | x :: r,i+1,h=>by
  rw [AV.closedL,Bool.and_eq_true] at h
  rw [List.set_cons_succ,AV.subL,xc _ _ _ (Nat.le_refl _) h.1,subL_set σ v r i h.2,List.set_cons_succ]
theorem P_BuildS (ys:List Cpd) (hl:ys.length≤16) (hok:sT 0 ys [root]):PCall EE 18 [.isl 14 (zy Pat.enc (ys.map Cpd.p))] (.tup [(⟨v5 0 ys [root],ys.map Cpd.a⟩:Nt).enc,int 0]):=by
 have kl:=Pat.closedI (ys.map Cpd.p)
 have hll:=zp Pat.enc (ys.map Cpd.p)
 rw [List.length_map] at hll
 obtain ⟨D,hD⟩:∃ D,D=v5 0 ys [root]:=⟨_,rfl⟩
 rw [← hD]
 have hat0:∀ (d:List Cpd) (y:Cpd) (r:List Cpd),ys=d++y :: r→(zy Pat.enc (ys.map Cpd.p)).getD d.length .undef=y.p.enc:=fun d y r h=>by rw [zu,h];simp [List.getD_eq_getElem?_getD]
 generalize zy Pat.enc (ys.map Cpd.p)=pl at *
 have hrr:=root_row
 have hR1:zy Br.row [root]=[root.row]:=by rw [zu];rfl
 have hA0:zy Au.enc []=[]:=by rw [zu];rfl
 refine zo ?_;unhygienic intros
 have k0:iNe 0 0=false:=by simp only [ee];rfl
 have kg:iLt 16 (lenA pl)=false:=by simp only [ee];simp;omega
 refine fB T18 [.cell 2 2 true,.t 3] ?_
 have fz:=kg
 refine Cq ?_
 refine goC 60 ?_
 refine ze (ι:=List Cpd × List Cpd × Int × List Br) (fun p=>([(26,int p.2.2.1),(25,int (lenA pl)),(24,.isl 14 pl),(4,.ptr 1 0),(2,.ptr 0 0)],[.cells [.val (.slice none 0 0),.val (.slice none 0 0)],.cells [.sl 2 11 0 p.2.2.2.length,.sl 3 4 0 p.1.length],.arr 11 (zy Br.row p.2.2.2),.arr 4 (zy Au.enc (p.1.map Cpd.a))])) (fun p=>ys=p.1++p.2.1∧p.2.2.1=p.1.length∧D=v5 p.1.length p.2.1 p.2.2.2∧sT p.1.length p.2.1 p.2.2.2∧(∀ b∈p.2.2.2,b.cond.Sm)) (fun p=>p.2.1.length) ([],ys,0,[root]) ⟨rfl,rfl,hD,hok,fun b hb=>by rw [List.mem_singleton.1 hb];exact tO⟩ ?_ ?_
 · dsimp only [List.map_nil]
   rw [hR1,show zy Au.enc (List.map Cpd.a [])=[] from hA0,hrr]
   exact ya [.to 0,.to 2,.to 1] [some 0,some 2,some 1,none] ⟨⟨by simp,rfl⟩,⟨by simp,rfl⟩,⟨by simp,rfl⟩,trivial⟩ ⟨zx (b:=0) rfl rfl rfl ⟨.refl _,.refl _,trivial⟩,zx (b:=2) rfl rfl rfl ⟨.refl _,.nilS _ _ _ (by simp),trivial⟩,osrc_arrW (b:=1) rfl rfl rfl ⟨.agg' ⟨.refl _,.refl _,.refl _,.nilI _,.refl _,.refl _,.refl _,.refl _,.refl _,.refl _,.refl _,trivial⟩,trivial⟩ (by intro e he;simp at he;subst he;rfl) (by intro e he;simp at he;subst he;rfl),.none _ rfl,trivial⟩ ⟨.refl _,.refl _,.cl kl,.refl _,.refl _,trivial⟩
 rintro ⟨d,r,i,B⟩ ⟨g1,gi,gD,gok,gsm⟩
 dsimp only at g1 gi gD gok gsm ⊢
 have g3:ys.length=d.length+r.length:=by rw [g1,List.length_append]
 have kB:=Br.rowI B
 have kBl:AV.closedL (zy Br.row B)=true:=by simpa only [AV.closed] using kB
 have hBl:=zp Br.row B
 have kA:=Au.closedI (d.map Cpd.a)
 have kAl:AV.closedL (zy Au.enc (d.map Cpd.a))=true:=by simpa only [AV.closed] using kA
 have hAl:=zp Au.enc (d.map Cpd.a)
 rw [List.length_map] at hAl
 cases r with
 | nil =>
  simp only [List.length_nil,Nat.add_zero] at g3
  have hc:iLt i (lenA pl)=false:=xR e_iLt e_lenA (by omega)
  rw [v5] at gD
  have hd:ys=d:=by rw [g1,List.append_nil]
  have hB256:B.length≤256:=gok
  have kE:=Br.closedI B
  have kEl:AV.closedL (zy Br.enc B)=true:=by simpa only [AV.closed] using kE
  have hEl:=zp Br.enc B
  have hw:=rows_wk 4 B
  have hc1:∀ e∈zy Br.row B,e.cells.length=11:=by
   intro e he
   rw [zu] at he
   obtain ⟨x,_,rfl⟩:=List.mem_map.1 he
   obtain ⟨co,ec,cv,cf,ck,xk,xn,xt,qq,h,_,_⟩:=x.rform
   rw [h];rfl
  have hc2:∀ e∈zy Br.enc B,e.cells.length=11:=by
   intro e he
   rw [zu] at he
   obtain ⟨x,_,rfl⟩:=List.mem_map.1 he
   obtain ⟨co,ec,cv,cf,ck,xk,xn,xt,h,_⟩:=x.form
   rw [h];rfl
  have hDB:D=B:=gD
  have hen:(⟨B,d.map Cpd.a⟩:Nt).enc=.agg [.isl 11 (zy Br.enc B),.isl 4 (zy Au.enc (d.map Cpd.a))]:=rfl
  rw [hDB,hd,hen]
  generalize zy Br.row B=rows at *
  generalize zy Br.enc B=encs at *
  generalize zy Au.enc (d.map Cpd.a)=aa at *
  generalize B.length=n at *
  generalize d.length=m at *
  refine sG (F':=[(26,int i),(25,int (lenA pl)),(24,.isl 14 pl),(4,.ptr 1 0),(2,.ptr 0 0)]) (H':=[.cells [.val (.slice none 0 0),.val (.slice none 0 0)],.cells [.sl 2 11 0 n,.sl 3 4 0 m],.arr 11 encs,.arr 4 aa]) (ya [.to 0,.to 1,.to 2,.to 3] [some 0,some 1,some 2,some 3] ⟨⟨by simp,rfl⟩,⟨by simp,rfl⟩,⟨by simp,rfl⟩,⟨by simp,rfl⟩,trivial⟩ ⟨zx (b:=0) rfl rfl rfl ⟨.refl _,.refl _,trivial⟩,zx (b:=1) rfl rfl rfl ⟨.refl _,.refl _,trivial⟩,osrc_arrW (b:=2) rfl rfl rfl (by rw [zw _ kBl];exact hw) hc1 hc2,zR (b:=3) rfl rfl rfl rfl kAl,trivial⟩ ⟨.refl _,.refl _,.cl kl,.refl _,.refl _,trivial⟩) ?_
  have k256:iLt 256 (iOf n)=false:=by simp only [ee];simp;omega
  have fz:=hc
  refine Cq ?_
  refine Aq ?_
  refine zk ?_
  have fz:=k256
  refine goC 60 ?_
  refine zP rfl rfl ?_
  refine ⟨[.gone,.gone,.isl 11 encs,.isl 4 aa],⟨trivial,trivial,⟨_,rfl,(zw _ kEl).symm⟩,⟨_,rfl,(zw _ kAl).symm⟩,trivial⟩,?_⟩
  exact .tup' ⟨.agg' ⟨.of (xf rfl hEl.symm),.of (xf rfl hAl.symm),trivial⟩,.refl _,trivial⟩
 | cons y r =>
  simp only [List.length_cons] at g3
  have hc:iLt i (lenA pl)=true:=xU e_iLt e_lenA (by omega)
  have hati:∀ v:AV,pl.getD d.length .undef=v→atA pl i=v:=fun v h=>by simp only [ee];rw [gi];simpa using h
  obtain ⟨ok,hB256,⟨eb,heb,heq,hea⟩,gok2⟩:=gok
  rw [v5] at gD
  have hyt:=hat0 d y r g1
  have pC:=P_Compile ok.cmp
  have pD:=P_divide y.p ok.chk
  have hcl:=Pat.closed y.p
  have kau:=Au.closed y.a
  have kpre:=Pat.closedI y.p.pre
  have hprl:=zp Pat.enc y.p.pre
  have hpr0:=ok.pre
  have kri:=Pat.closed y.p.rst
  have hA2:zy Au.enc ((d++[y]).map Cpd.a)=zy Au.enc (d.map Cpd.a)++[y.a.enc]:=by rw [zu,zu];simp
  have kA2:=Au.closedI ((d++[y]).map Cpd.a)
  have hen:y.a.enc=.agg [int y.a.vars,int y.a.scopes,.isl 1 (zy stE y.a.states),.isl 17 (zy Ed.enc y.a.edges)]:=y.a.enc_eq
  obtain ⟨aa2,hE2⟩:∃ x,x=zy Au.enc ((d++[y]).map Cpd.a):=⟨_,rfl⟩
  rw [← hE2] at hA2 kA2
  generalize hE1:zy Au.enc (d.map Cpd.a)=aa at *
  generalize hE3:zy Br.row B=rows at *
  generalize zy stE y.a.states=asl at *
  generalize zy Ed.enc y.a.edges=ael at *
  obtain ⟨pre,hpre⟩:∃ x,x=zy Pat.enc y.p.pre:=⟨_,rfl⟩
  rw [← hpre] at pD kpre hprl
  obtain ⟨wb,hwb⟩:∃ x,x=y.p.whl:=⟨_,rfl⟩
  rw [← hwb] at pD
  obtain ⟨rs,hrs⟩:∃ x,x=y.p.rst:=⟨_,rfl⟩
  rw [← hrs] at pD kri
  obtain ⟨pp,hpp⟩:∃ x,x=y.p:=⟨_,rfl⟩
  rw [← hpp] at pD pC hcl hyt
  rw [hen] at pC kau hA2
  obtain ⟨m,hm⟩:∃ x,x=d.length:=⟨_,rfl⟩
  obtain ⟨n,hn⟩:∃ x,x=B.length:=⟨_,rfl⟩
  obtain ⟨m1,hm1⟩:∃ x,x=(d++[y]).length:=⟨_,rfl⟩
  have hm2:m1=m+1:=by rw [hm1,hm,List.length_append];rfl
  rw [← hm,← hn]
  rw [← hn] at hB256 hBl
  rw [← hm] at gi hAl g3
  obtain ⟨ppO,ppA,ppT,ppV,ppS,ppN,ppCo,ppCa,ppCv,ppCf,ppCk,ppXk,ppXn,ppXt,hx⟩:=Pat.form pp
  obtain ⟨rsO,rsA,rsT,rsV,rsS,rsN,rsCo,rsCa,rsCv,rsCf,rsCk,rsXk,rsXn,rsXt,hr⟩:=Pat.form rs
  rw [hx] at pD pC hcl hyt
  rw [hr] at pD kri
  have hat:atA pl i=.agg [int ppO,.isl 14 ppA,int ppT,int ppV,int ppS,int ppN,int ppCo,.isl 8 ppCa,int ppCv,int ppCf,int ppCk,int ppXk,int ppXn,str ppXt]:=hati _ hyt
  have hcll:AV.closedL [int ppO,.isl 14 ppA,int ppT,int ppV,int ppS,int ppN,int ppCo,.isl 8 ppCa,int ppCv,int ppCf,int ppCk,int ppXk,int ppXn,str ppXt]=true:=by simpa only [AV.closed] using hcl
  have kril:AV.closedL [int rsO,.isl 14 rsA,int rsT,int rsV,int rsS,int rsN,int rsCo,.isl 8 rsCa,int rsCv,int rsCf,int rsCk,int rsXk,int rsXn,str rsXt]=true:=by simpa only [AV.closed] using kri
  have kA2l:AV.closedL aa2=true:=by simpa only [AV.closed] using kA2
  have fz:=And.intro hc hat
  refine Cq ?_
  refine Cq ?_
  refine goC 60 ?_
  refine zh (args:=[.agg [int ppO,.isl 14 ppA,int ppT,int ppV,int ppS,int ppN,int ppCo,.isl 8 ppCa,int ppCv,int ppCf,int ppCk,int ppXk,int ppXn,str ppXt]]) rfl rfl rfl pC (zg hcl) ?_
  have fz:=k0
  refine Cq ?_
  have f1:addN m (lenN (partA [.agg [int y.a.vars,int y.a.scopes,.isl 1 asl,.isl 17 ael]] 0 1))=m1:=by simp only [ee];rw [hm2];rfl
  have f2:catA (dropA aa 0) (partA [.agg [int y.a.vars,int y.a.scopes,.isl 1 asl,.isl 17 ael]] 0 1)=aa2:=by simp only [ee];rw [hA2];simp
  have fz:=And.intro k0 (And.intro f1 f2)
  refine goC 60 ?_
  refine zh (args:=[.agg [int ppO,.isl 14 ppA,int ppT,int ppV,int ppS,int ppN,int ppCo,.isl 8 ppCa,int ppCv,int ppCf,int ppCk,int ppXk,int ppXn,str ppXt]]) rfl rfl rfl pD (zg hcl) ?_
  refine Aq ?_
  refine ze (ι:=List Pat × List Pat × Int × List Br × Int) (fun p=>([(54,int p.2.2.1),(53,int (lenA pre)),(52,.isl 14 pre),(12,int p.2.2.2.2),(11,bool wb),(9,.isl 14 pre),(10,.ptr 5 0),(8,int 0),(6,.ptr 4 0),(5,int i),(26,int i),(25,int (lenA pl)),(24,.isl 14 pl),(4,.ptr 1 0),(2,.ptr 0 0)],[.cells [.val (.slice none 0 0),.val (.slice none 0 0)],.cells [.sl 2 11 0 p.2.2.2.1.length,.sl 3 4 0 m1],.arr 11 (zy Br.row p.2.2.2.1),.arr 4 aa2,.cells [int ppO,.isl 14 ppA,int ppT,int ppV,int ppS,int ppN,int ppCo,.isl 8 ppCa,int ppCv,int ppCf,int ppCk,int ppXk,int ppXn,str ppXt],.cells [int rsO,.isl 14 rsA,int rsT,int rsV,int rsS,int rsN,int rsCo,.isl 8 rsCa,int rsCv,int rsCf,int rsCk,int rsXk,int rsXn,str rsXt]])) (fun p=>y.p.pre=p.1++p.2.1∧p.2.2.1=p.1.length∧tj y.p.pre (B,0)=tj p.2.1 p.2.2.2∧p.2.2.2.1.length≤n+p.1.length∧(∀ b∈p.2.2.2.1,b.cond.Sm)) (fun p=>p.2.1.length) ([],y.p.pre,0,(B,0)) ⟨rfl,rfl,rfl,Nat.le_of_eq hn.symm,gsm⟩ ?_ ?_
  · dsimp only
    rw [← hn,hE3]
    exact ya [.to 0,.to 1,.to 2,.gone,.to 4,.gone,.gone,.to 3,.to 5] [some 0,some 1,some 2,some 7,some 4,some 8] ⟨⟨by simp,rfl⟩,⟨by simp,rfl⟩,⟨by simp,rfl⟩,trivial,⟨by simp,rfl⟩,trivial,trivial,⟨by simp,rfl⟩,⟨by simp,rfl⟩,trivial⟩ ⟨zx (b:=0) rfl rfl rfl ⟨.refl _,.refl _,trivial⟩,zx (b:=1) rfl rfl rfl ⟨.refl _,.refl _,trivial⟩,zR (b:=2) rfl rfl rfl rfl kBl,zR (b:=7) rfl rfl rfl rfl kA2l,zx (b:=4) rfl rfl rfl (by rw [zw _ hcll];exact WkL.refl _ _),zx (b:=8) rfl rfl rfl (by rw [zw _ kril];exact WkL.refl _ _),trivial⟩ ⟨.refl _,.refl _,.cl kpre,.refl _,.refl _,.cl kpre,.refl _,.refl _,.refl _,.refl _,.refl _,.refl _,.cl kl,.refl _,.refl _,trivial⟩
  rintro ⟨e,q,k,S⟩ ⟨h1,hk,hS,hSl,hSs⟩
  dsimp only at h1 hk hS hSl hSs ⊢
  cases q with
  | nil =>
   have L1:=lS h1
   have hkc:iLt k (lenA pre)=false:=xR e_iLt e_lenA (by omega)
   rw [tj] at hS
   have hrl:=zp Br.row S.1
   have krS:=Br.rowI S.1
   have krSl:AV.closedL (zy Br.row S.1)=true:=by simpa only [AV.closed] using krS
   have pF:=P_firsts pre.length (by omega)
   have hlp:lenA pre=(pre.length:Int):=by simp only [ee]
   rw [← hlp] at pF
   have kvs:=zQ (upto pre.length)
   have hrow1:∃ z,S.1[S.2.toNat]? = some z∧z.queries=[]∧0≤S.2:=⟨eb,by rw [← hS];exact heb,heq,by rw [← hS];exact hea⟩
   obtain ⟨vs,hvs⟩:∃ z,z=zy int (upto pre.length):=⟨_,rfl⟩
   rw [← hvs] at pF kvs
   obtain ⟨SB,sv⟩:=S
   dsimp only at hrow1 hrl krS krSl hS hSl hSs ⊢
   obtain ⟨z,hz1,hz2,hz3⟩:=hrow1
   obtain ⟨n1,hn1⟩:∃ z,z=SB.length:=⟨_,rfl⟩
   obtain ⟨rw1,hr1⟩:∃ z,z=zy Br.row SB:=⟨_,rfl⟩
   rw [← hn1,← hr1]
   rw [← hn1] at hSl
   have hsv:sv<n1:=by have:=(List.getElem?_eq_some_iff.1 hz1).1;omega
   rw [← hn1,← hr1] at hrl
   rw [← hr1] at krS krSl
   have fz:=hkc
   refine Cq ?_
   refine Aq ?_
   refine zk ?_
   refine Aq ?_
   refine oPA pF ?_
   obtain ⟨nb,hnb⟩:∃ z,z = !wb:=⟨_,rfl⟩
   have kn:bNot wb=nb:=by simp only [ee];rw [hnb]
   obtain ⟨st,hst⟩:∃ z,z=y.st:=⟨_,rfl⟩
   have hst1:wb=true→st=0:=fun h=>by rw [hst,Cpd.st,← hwb,if_pos h]
   have hst2:wb=false→PCall EE 52 [.agg [int ppO,.isl 14 ppA,int ppT,int ppV,int ppS,int ppN,int ppCo,.isl 8 ppCa,int ppCv,int ppCf,int ppCk,int ppXk,int ppXn,str ppXt],.agg [int rsO,.isl 14 rsA,int rsT,int rsV,int rsS,int rsN,int rsCo,.isl 8 rsCa,int rsCv,int rsCf,int rsCk,int rsXk,int rsXn,str rsXt]] (.tup [int st,bool (decide (0≤x9 0 y.l y.p.rst)),int 0]):=fun h=>by
    have:=P_Find ok.cmp ok.few ok.lsm (ok.rst (by rw [← hwb,h])).1 (ok.rst (by rw [← hwb,h])).2
    rw [show y.p.enc=pp.enc by rw [← hpp],show y.p.rst.enc=rs.enc by rw [← hrs],hx,hr] at this
    rw [hst,Cpd.st,← hwb,h,if_neg (by decide)]
    exact this
   have kpr:AV.closedL [.agg [int ppO,.isl 14 ppA,int ppT,int ppV,int ppS,int ppN,int ppCo,.isl 8 ppCa,int ppCv,int ppCf,int ppCk,int ppXk,int ppXn,str ppXt],.agg [int rsO,.isl 14 rsA,int rsT,int rsV,int rsS,int rsN,int rsCo,.isl 8 rsCa,int rsCv,int rsCf,int rsCk,int rsXk,int rsXn,str rsXt]]=true:=by rw [AV.closedL,AV.closedL,hcl,kri];rfl
   generalize decide (0≤x9 0 y.l y.p.rst)=bb at *
   have fz:=kn
   refine Cq ?_
   refine on_condJ [(16,.ptr 4 0),(12,int sv),(26,int i),(25,int (lenA pl)),(24,.isl 14 pl),(4,.ptr 1 0),(2,.ptr 0 0)] [.cells [.val (.slice none 0 0),.val (.slice none 0 0)],.cells [.sl 2 11 0 n1,.sl 3 4 0 m1],.arr 11 rw1,.arr 4 aa2,.cells [int i,.isl 1 vs,bool wb,int st]] rfl (fun h=>?_) (fun h=>?_) ?_
   · have hwf:wb=false:=by rw [h] at hnb;simpa using hnb
     have pFi:=hst2 hwf
     refine Aq ?_
     refine zh (args:=[.agg [int ppO,.isl 14 ppA,int ppT,int ppV,int ppS,int ppN,int ppCo,.isl 8 ppCa,int ppCv,int ppCf,int ppCk,int ppXk,int ppXn,str ppXt],.agg [int rsO,.isl 14 rsA,int rsT,int rsV,int rsS,int rsN,int rsCo,.isl 8 rsCa,int rsCv,int rsCf,int rsCk,int rsXk,int rsXn,str rsXt]]) rfl rfl rfl pFi kpr ?_
     have fz:=k0
     refine goC 60 ?_
     refine ⟨rfl,?_⟩
     exact ya [.to 0,.to 1,.to 2,.to 3,.gone,.gone,.to 4] [some 0,some 1,some 2,some 3,some 6] ⟨⟨by simp,rfl⟩,⟨by simp,rfl⟩,⟨by simp,rfl⟩,⟨by simp,rfl⟩,trivial,trivial,⟨by simp,rfl⟩,trivial⟩ ⟨zx (b:=0) rfl rfl rfl ⟨.refl _,.refl _,trivial⟩,zx (b:=1) rfl rfl rfl ⟨.refl _,.refl _,trivial⟩,zR (b:=2) rfl rfl rfl rfl krSl,zR (b:=3) rfl rfl rfl rfl kA2l,zx (b:=6) rfl rfl rfl ⟨.refl _,.cl kvs,.refl _,.refl _,trivial⟩,trivial⟩ ⟨.refl _,.refl _,.refl _,.refl _,.cl kl,.refl _,.refl _,trivial⟩
   · have hwt:wb=true:=by rw [h] at hnb;simpa using hnb
     have hs0:=hst1 hwt
     refine Aq ?_
     refine ⟨rfl,?_⟩
     exact ya [.to 0,.to 1,.to 2,.to 3,.gone,.gone,.to 4] [some 0,some 1,some 2,some 3,some 6] ⟨⟨by simp,rfl⟩,⟨by simp,rfl⟩,⟨by simp,rfl⟩,⟨by simp,rfl⟩,trivial,trivial,⟨by simp,rfl⟩,trivial⟩ ⟨zx (b:=0) rfl rfl rfl ⟨.refl _,.refl _,trivial⟩,zx (b:=1) rfl rfl rfl ⟨.refl _,.refl _,trivial⟩,zR (b:=2) rfl rfl rfl rfl krSl,zR (b:=3) rfl rfl rfl rfl kA2l,zx (b:=6) rfl rfl rfl ⟨.refl _,.cl kvs,.refl _,.of (congrArg int hs0.symm),trivial⟩,trivial⟩ ⟨.refl _,.refl _,.refl _,.refl _,.cl kl,.refl _,.refl _,trivial⟩
   obtain ⟨co,ec,cv,cf,ck,xk,xn,xt,qq,hzr,hzc,hzq⟩:=z.rform
   rw [hz2,show rQ []=.val (.slice none 0 0) from rfl] at hzq
   rw [hzq] at hzr
   have hzat:atN rw1 (idxN 0 sv)=.agg [int z.parent,int z.ty,int co,.isl 8 ec,int cv,int cf,int ck,int xk,int xn,str xt,.val (.slice none 0 0)]:=by
    simp only [ee]
    rw [hr1,zu,← hzr]
    simp [List.getD_eq_getElem?_getD,hz1]
   have hci:idxN 0 sv<rw1.length:=by simp only [ee];omega
   have fz:=hzat
   refine Cq ?_
   refine zX rfl (by conv=>lhs;cbv) rfl ?_
   refine tgC ?_
   refine zK ⟨rfl,?_,?_⟩
   · simp only [zJ,zd,List.append_nil];and_intros<;>first | trivial | (intro hp;first | rfl | exact absurd (show false=true from hp) Bool.false_ne_true)
   refine Aq ?_
   have hi2:iAdd .i64 i 1=((d++[y]).length:Int):=by rw [List.length_append];exact yh e_iAdd (by rw [gi,hm]) (by omega)
   refine zm (d++[y],r,iAdd .i64 i 1,vn d.length y B) ⟨by simp [g1],hi2,by rw [List.length_append];exact gD,by rw [List.length_append];exact gok2,bldOne_sm _ _ _ gsm ok.ev⟩ (by simp) ?_
   dsimp only
   have hpa:partA [.agg [int i,.isl 1 vs,bool wb,int st]] 0 1=[.agg [int i,.isl 1 vs,bool wb,int st]]:=by simp only [ee];rfl
   have hla:lenN [.agg [int i,.isl 1 vs,bool wb,int st]]=1:=by simp only [ee];rfl
   have hse:∀ v,setA rw1 (idxN 0 sv) v=rw1.set sv.toNat v:=fun v=>by simp only [ee];simp
   have hmod:zy Br.row (vn d.length y B)=rw1.set sv.toNat (.agg [int z.parent,int z.ty,int co,.isl 8 ec,int cv,int cf,int ck,int xk,int xn,str xt,.isl 4 [.agg [int i,.isl 1 vs,bool wb,int st]]]):=by
    have hq:rQ [y.tail d.length]=.isl 4 [.agg [int i,.isl 1 vs,bool wb,int st]]:=by
     show AV.isl 4 (zy Tl.enc [y.tail d.length])=_
     rw [zu,List.map_singleton,Tl.enc_eq]
     simp only [Cpd.tail]
     rw [← hprl,← hvs,← hwb,← hst,gi,hm]
    rw [vn,hS,zu,map_modify_set _ _ z _ _ hz1,← zu,← hr1]
    congr 1
    rw [Br.row]
    dsimp only
    rw [hzc,hq]
    rfl
   have hbl:(vn d.length y B).length=n1:=by rw [vn,hS,List.length_modify,hn1]
   rw [hbl,← hm1,← hE2,hmod,hse,hpa,hla]
   have kec:(AV.isl 8 ec).closed=true:=by
    have:=Ex.closed z.cond
    rw [hzc] at this
    simp only [AV.closed,AV.closedL,Bool.and_true,Bool.true_and] at this ⊢
    exact this
   have ktl:AV.closedL [.agg [int i,.isl 1 vs,bool wb,int st]]=true:=by
    simp only [AV.closed,AV.closedL,Bool.and_true,Bool.true_and] at kvs ⊢
    exact kvs
   refine ya [.to 0,.to 1,.to 2,.to 3,.gone,.gone,.isl 4 [.agg [int i,.isl 1 vs,bool wb,int st]]] [some 0,some 1,some 2,some 3] ⟨⟨by simp,rfl⟩,⟨by simp,rfl⟩,⟨by simp,rfl⟩,⟨by simp,rfl⟩,trivial,trivial,⟨_,rfl,(zw _ ktl).symm⟩,trivial⟩ ⟨zx (b:=0) rfl rfl rfl ⟨.refl _,.refl _,trivial⟩,zx (b:=1) rfl rfl rfl ⟨.refl _,.refl _,trivial⟩,.same 2 _ _ rfl rfl rfl (congrArg (AObj.arr 11) ?_),zR (b:=3) rfl rfl rfl rfl kA2l,trivial⟩ ⟨.refl _,.refl _,.cl kl,.refl _,.refl _,trivial⟩
   refine (subL_set _ _ _ _ krSl).trans (congrArg (rw1.set sv.toNat) ?_)
   generalize hσ:ofL [Sub.to 0,.to 1,.to 2,.to 3,.gone,.gone,.isl 4 [.agg [int i,.isl 1 vs,bool wb,int st]]]=σ
   have e1:(AV.isl 8 ec).sub σ=.isl 8 ec:=xc σ _ _ (Nat.le_refl _) kec
   have e2:(AV.sl 6 4 0 1).sub σ=.isl 4 [.agg [int i,.isl 1 vs,bool wb,int st]]:=by rw [← hσ];exact xm rfl rfl
   show AV.agg [int z.parent,int z.ty,int co,(AV.isl 8 ec).sub σ,int cv,int cf,int ck,int xk,int xn,str xt,(AV.sl 6 4 0 1).sub σ]=_
   rw [e1,e2]
  | cons x q =>
   have L1:=lS h1
   have hkx:e.length<pre.length:=by rw [hprl,L1];omega
   have kc1:iLt k (lenA pre)=true:=xU e_iLt e_lenA (by omega)
   have hatx:atA pre k=x.enc:=by
    simp only [ee]
    rw [hk,hpre,zu,h1]
    simp [List.getD_eq_getElem?_getD]
   have hxm:=ok.ev x (by rw [h1];simp)
   have kxe:=Pat.closed x
   have hk2:iAdd .i64 k 1=((e++[x]).length:Int):=by rw [List.length_append];exact yh e_iAdd hk (by omega)
   have hrl:=zp Br.row S.1
   have pch:=P_childR S.1 ⟨S.2,x.ty,x.cond,[]⟩ hSs (by omega)
   have krS:=Br.rowI S.1
   have krSl:AV.closedL (zy Br.row S.1)=true:=by simpa only [AV.closed] using krS
   have hbl:=bldE_len S x
   have hsm2:=bldE_sm hSs hxm
   have hS2:tj y.p.pre (B,0)=tj q (sO S x):=by rw [hS,tj]
   obtain ⟨xO,xA,xT,xV,xS,xN,xCo,xCa,xCv,xCf,xCk,xXk,xXn,xXt,hx2,hx2c,hxO,hxA,hxT,hxV,hxS,hxN⟩:=Pat.form2 x
   have hbr:=Br.rform0 S.2 x.ty x.cond hx2c
   rw [hx2] at hatx kxe
   rw [hbr] at pch
   have hrow2:zy Br.row (S.1++[⟨S.2,x.ty,x.cond,[]⟩])=zy Br.row S.1++[.agg [int S.2,int x.ty,int xCo,.isl 8 xCa,int xCv,int xCf,int xCk,int xXk,int xXn,str xXt,.val (.slice none 0 0)]]:=by rw [zu,zu,List.map_append,List.map_singleton,hbr]
   have kr2:=Br.rowI (S.1++[⟨S.2,x.ty,x.cond,[]⟩])
   obtain ⟨jx,hjx⟩:∃ z,z=yP (fun z=>wJ z ⟨S.2,x.ty,x.cond,[]⟩) S.1 0:=⟨_,rfl⟩
   rw [← hjx] at pch
   have hbE:sO S x=if jx<0 then (S.1++[⟨S.2,x.ty,x.cond,[]⟩],(S.1.length:Int)) else (S.1,jx):=by rw [hjx];rfl
   have kbc:(AV.agg [int S.2,int x.ty,int xCo,.isl 8 xCa,int xCv,int xCf,int xCk,int xXk,int xXn,str xXt,.val (.slice none 0 0)]).closed=true:=by rw [← hbr];exact Br.rclosed _
   have kxl:AV.closedL [int xO,.isl 14 xA,int xT,int xV,int xS,int xN,int xCo,.isl 8 xCa,int xCv,int xCf,int xCk,int xXk,int xXn,str xXt]=true:=by simpa only [AV.closed] using kxe
   have kbl:AV.closedL [int S.2,int x.ty,int xCo,.isl 8 xCa,int xCv,int xCf,int xCk,int xXk,int xXn,str xXt,.val (.slice none 0 0)]=true:=by simpa only [AV.closed] using kbc
   have hsn2:(S.1++[(⟨S.2,x.ty,x.cond,[]⟩:Br)]).length=S.1.length+1:=by simp
   rw [← hxT] at *
   obtain ⟨rw1,hr1⟩:∃ z,z=zy Br.row S.1:=⟨_,rfl⟩
   obtain ⟨rw2,hr2⟩:∃ z,z=zy Br.row (S.1++[⟨S.2,xT,x.cond,[]⟩]):=⟨_,rfl⟩
   obtain ⟨n1,hn1⟩:∃ z,z=S.1.length:=⟨_,rfl⟩
   obtain ⟨n2,hn2⟩:∃ z,z=(S.1++[(⟨S.2,xT,x.cond,[]⟩:Br)]).length:=⟨_,rfl⟩
   obtain ⟨av,hav⟩:∃ z,z=S.2:=⟨_,rfl⟩
   rw [← hr1,← hn1,← hav]
   rw [← hr1,← hn1] at hrl
   rw [← hr1] at pch krS krSl hrow2
   rw [← hr2] at hrow2 kr2
   rw [← hn1] at hSl
   rw [← hn1,← hn2] at hsn2
   have krl2:AV.closedL rw2=true:=by simpa only [AV.closed] using kr2
   rw [← hav] at pch kbc kbl hrow2
   have q1:addN n1 (lenN (partA [.agg [int av,int xT,int xCo,.isl 8 xCa,int xCv,int xCf,int xCk,int xXk,int xXn,str xXt,.val (.slice none 0 0)]] 0 1))=n2:=by simp only [ee];rw [hsn2];rfl
   have q2:catA (dropA rw1 0) (partA [.agg [int av,int xT,int xCo,.isl 8 xCa,int xCv,int xCf,int xCk,int xXk,int xXn,str xXt,.val (.slice none 0 0)]] 0 1)=rw2:=by simp only [ee];rw [hrow2];simp
   have fz:=And.intro kc1 hatx
   refine Cq ?_
   refine goC 60 ?_
   refine vT rfl rfl pch rfl ⟨[.gone,.gone,.isl 11 rw1,.gone,.gone,.gone,.gone,.gone],⟨trivial,trivial,⟨_,rfl,(zw _ krSl).symm⟩,trivial,trivial,trivial,trivial,trivial,trivial⟩,⟨.of (xm rfl hrl.symm),.cl kbc,trivial⟩⟩ ?_
   by_cases hj:jx<0
   · have kj:iLt jx 0=true:=by simp only [ee];simpa using hj
     rw [if_pos hj] at hbE
     have fz:=And.intro kj (And.intro q1 q2)
     refine goC 60 ?_
     refine zm (e++[x],q,iAdd .i64 k 1,sO S x) ⟨by simp [h1],hk2,hS2,by rw [List.length_append];simp only [List.length_singleton];omega,hsm2⟩ (by simp) ?_
     dsimp only
     rw [hbE]
     dsimp only
     rw [← hn1,← hr2,← hn2,show ((n1:Nat):Int)=iOf n1 by simp only [ee]]
     exact ya [.to 0,.to 1,.gone,.to 3,.to 4,.to 5,.gone,.gone,.gone,.to 2] [some 0,some 1,some 9,some 3,some 4,some 5] ⟨⟨by simp,rfl⟩,⟨by simp,rfl⟩,trivial,⟨by simp,rfl⟩,⟨by simp,rfl⟩,⟨by simp,rfl⟩,trivial,trivial,trivial,⟨by simp,rfl⟩,trivial⟩ ⟨zx (b:=0) rfl rfl rfl ⟨.refl _,.refl _,trivial⟩,zx (b:=1) rfl rfl rfl ⟨.refl _,.refl _,trivial⟩,zR (b:=9) rfl rfl rfl rfl krl2,zR (b:=3) rfl rfl rfl rfl kA2l,zx (b:=4) rfl rfl rfl (by rw [zw _ hcll];exact WkL.refl _ _),zx (b:=5) rfl rfl rfl (by rw [zw _ kril];exact WkL.refl _ _),trivial⟩ ⟨.refl _,.refl _,.cl kpre,.refl _,.refl _,.cl kpre,.refl _,.refl _,.refl _,.refl _,.refl _,.refl _,.cl kl,.refl _,.refl _,trivial⟩
   have kj:iLt jx 0=false:=by simp only [ee];simpa using hj
   rw [if_neg hj] at hbE
   have fz:=kj
   refine goC 60 ?_
   refine zm (e++[x],q,iAdd .i64 k 1,sO S x) ⟨by simp [h1],hk2,hS2,by rw [List.length_append];simp only [List.length_singleton];omega,hsm2⟩ (by simp) ?_
   dsimp only
   rw [hbE]
   dsimp only
   rw [← hn1,← hr1]
   exact ya [.to 0,.to 1,.to 2,.to 3,.to 4,.to 5,.gone,.gone] [some 0,some 1,some 2,some 3,some 4,some 5] ⟨⟨by simp,rfl⟩,⟨by simp,rfl⟩,⟨by simp,rfl⟩,⟨by simp,rfl⟩,⟨by simp,rfl⟩,⟨by simp,rfl⟩,trivial,trivial,trivial⟩ ⟨zx (b:=0) rfl rfl rfl ⟨.refl _,.refl _,trivial⟩,zx (b:=1) rfl rfl rfl ⟨.refl _,.refl _,trivial⟩,zR (b:=2) rfl rfl rfl rfl krSl,zR (b:=3) rfl rfl rfl rfl kA2l,zx (b:=4) rfl rfl rfl (by rw [zw _ hcll];exact WkL.refl _ _),zx (b:=5) rfl rfl rfl (by rw [zw _ kril];exact WkL.refl _ _),trivial⟩ ⟨.refl _,.refl _,.cl kpre,.refl _,.refl _,.cl kpre,.refl _,.refl _,.refl _,.refl _,.refl _,.refl _,.cl kl,.refl _,.refl _,trivial⟩
end Go.Am
end
