/- Contracts of the program's functions. -/
import Derived.Test.YtpdmaimjllhooaaGreatDoorProg
import Derived.Test.YtpdmaimjllhooaaGreatDoorPCt6
import Derived.Test.YtpdmaimjllhooaaGreatDoorPCt2
import Derived.Test.YtpdmaimjllhooaaGreatDoorCards
import Derived.Test.YtpdmaimjllhooaaGreatDoorRows
import Derived.Test.YtpdmaimjllhooaaGreatDoorTie
section
set_option maxHeartbeats 16000000
set_option maxRecDepth 100000
namespace Go.Am
open Go.Proofs
def wa (l:List Pat):List Int:=(l.filter fun q=>decide (q.op=0)).map Pat.var
def Pat.bound (p:Pat):List Int:=Lib.compact (yE (wa p.nodes))
theorem bndF_snoc (d:List Pat) (q:Pat):wa (d++[q])=if q.op=0 then wa d++[q.var] else wa d:=by
 unfold wa
 rw [List.filter_append,List.map_append]
 by_cases h:q.op=0<;>simp [h]
theorem bndF_len (d:List Pat):(wa d).length≤d.length:=by
 unfold wa;rw [List.length_map];exact List.length_filter_le ..
theorem ub (l:List Int):(yE l).length=l.length:=by simp [yE,List.length_mergeSort]
theorem enters_slices_Sort___int_int_ : yz EE.P 146:=enters_of rfl (by decide) T146.2
theorem enters_slices_Compact___int_int_ : yz EE.P 147:=enters_of rfl (by decide) T147.2
theorem C_Sort (l:List Int) (hl:l.length<4611686018427387904):ACall EE 146 [.sl 0 1 0 l.length] [.arr 1 (mapE int l)] fun v H'=>v=.tup []∧H'=[.arr 1 (mapE int (yE l))]:=by
 have:=sort_acall (E:=EE) Tryz.lays189 l hl
 rw [zn,zn]
 exact this
theorem C_Compact (l:List Int) (hl:l.length<4611686018427387904):ACall EE 147 [.sl 0 1 0 l.length] [.arr 1 (mapE int l)] fun v H'=>v=.sl 0 1 0 (Lib.compact l).length∧H'=[.arr 1 (mapE int (wx l))]:=by
 have:=comp_acall (E:=EE) Tryz.laysNm220 l (by omega)
 rw [zn,zn]
 exact this
theorem P_Bound (p:Pat) (hs:p.Sm):PCall EE 109 [p.enc] (.isl 1 (mapE int p.bound)):=by
 have hcl:=Pat.closed p
 have hcnt:=Pat.nodes_len p
 have hs1:=hs.1
 obtain ⟨R,hR⟩:∃ R,R=p.bound:=⟨_,rfl⟩
 rw [← hR]
 unfold Pat.bound at hR
 obtain ⟨pcs,hpe⟩:=Pat.some_cells p
 have hpre:=P_preorder p hpe
 obtain ⟨pO,pA,pT,pV,pS,pN,pCo,pCa,pCv,pCf,pCk,pXk,pXn,pXt,hx⟩:=Pat.form p
 rw [hx] at hcl hpe ⊢
 injection hpe with hpe
 subst hpe
 have hip:(AV.fn 155 [.iptr [int pO,.isl 14 pA,int pT,int pV,int pS,int pN,int pCo,.isl 8 pCa,int pCv,int pCf,int pCk,int pXk,int pXn,str pXt]]).closed=true:=by simp only [zE,AV.closedL,zh,Bool.and_true];exact hcl
 have hpA:(AV.isl 14 pA).closed=true:=by have:=hcl;simp [AV.closed,AV.closedL] at this ⊢;exact this.1
 have hpCa:(AV.isl 8 pCa).closed=true:=by have:=hcl;simp [AV.closed,AV.closedL] at this ⊢;exact this.2
 have hnil:mapE int []=[]:=by rw [zn];rfl
 refine zt ?_;unhygienic intros
 refine fB T109 [.t 2] ?_
 refine Aq ?_
 refine oPA hpre ?_
 refine Aq ?_
 refine x6 (F':=[(6,.fn 155 [.iptr [int pO,.isl 14 pA,int pT,int pV,int pS,int pN,int pCo,.isl 8 pCa,int pCv,int pCf,int pCk,int pXk,int pXn,str pXt]]),(3,.ptr 0 0)]) (H':=[.cells [.val (.slice none 0 0)],.dead,.dead,.dead,.dead,.dead,.dead]) ?_ ?_
 · exact (eS [.gone,.to 0] [some 1,none,none,none,none,none,none])
 refine on_preorder (fun d=>.cells [.sl 8 1 0 (wa d).length]) (fun _=>.dead) (fun _=>.dead) (fun _=>.dead) (fun _=>.dead) (fun _=>.dead) (fun _=>.dead) (fun d=>.arr 1 (mapE int (wa d))) (fun _=>.dead) (fun _=>True) p hs hx rfl rfl ⟨.cl hip,.ptr (by decide),trivial⟩ trivial ?_ (fun _=>.cells ⟨.sl (by decide),trivial⟩) (fun _=>.dead) (fun _=>.dead) (fun _=>.dead) (fun _=>.dead) (fun _=>.dead) (fun _=>.dead) (fun _=>.arr (zM _)) (fun _=>.dead) (fun _=>?_) (fun d q r hd _=>?_)
 · have e:wa []=[]:=rfl
   rw [e,hnil]
   exact (xQ [.to 0,.gone,.gone,.gone,.gone,.gone,.gone,.to 7] [some 0,some 1,some 2,some 3,some 4,some 5,some 6,some 7,none,none] rfl ⟨rfl,rfl,rfl,rfl,rfl,rfl,rfl,rfl,trivial⟩ (by simp) (by simp) ⟨⟨by simp,rfl⟩,trivial,trivial,trivial,trivial,trivial,trivial,⟨by simp,rfl⟩,trivial⟩ ⟨zk (b:=0) rfl rfl rfl ⟨.nilS _ _ _ (by simp),trivial⟩,.dead,.dead,.dead,.dead,.dead,.dead,.some 7 _ _ rfl rfl rfl (.loop _ _ _ _ _ _ _ _ ⟨.cl hip,.refl _,trivial⟩),.none _ rfl,.dead,trivial⟩)
 · have hbl:=bndF_len p.nodes
   have hR2:mapE int R=(mapE int (wx (yE (wa p.nodes)))).take R.length:=by
    rw [hR,wx,zn,zn,List.map_append,List.take_left' (by simp)]
   have hle:R.length≤(mapE int (wx (yE (wa p.nodes)))).length:=by
    rw [hR,zr,compI_len];exact vj _
   have hss:=C_Sort (wa p.nodes) (by omega)
   have hcc:=C_Compact (yE (wa p.nodes)) (by rw [ub];omega)
   rw [← hR,ub] at hcc
   have c1:=zM (wa p.nodes)
   have c2:=zM (yE (wa p.nodes))
   have c3:=zM (wx (yE (wa p.nodes)))
   generalize R.length=rl at *
   generalize (wa p.nodes).length=m1 at *
   generalize mapE int (wx (yE (wa p.nodes)))=w3 at *
   generalize mapE int (yE (wa p.nodes))=w2 at *
   generalize mapE int (wa p.nodes)=w1 at *
   generalize mapE int R=rs at *
   refine Aq ?_
   refine wi [8] rfl rfl enters_slices_Sort___int_int_ hss (by decide) (by simp) (by show _=[AObj.arr 1 (AV.subL _ w1)];rw [zx _ c1]) rfl ?_
   rintro v0 H' ⟨rfl,rfl⟩ -
   refine yD (F':=[(3,.ptr 0 0)]) (H':=[.cells [.sl 1 1 0 m1],.arr 1 w2]) ?_ ?_
   · exact (eS [.to 0,.gone,.gone,.gone,.gone,.gone,.gone,.gone,.to 1,.gone] [some 0,some 8])
   refine Aq ?_
   refine wi [1] rfl rfl enters_slices_Compact___int_int_ hcc (by decide) (by simp) (by show _=[AObj.arr 1 (AV.subL _ w2)];rw [zx _ c2]) rfl ?_
   rintro v0 H' ⟨rfl,rfl⟩ -
   refine yD (F':=[(19,.sl 0 1 0 rl)]) (H':=[.arr 1 w3]) ?_ ?_
   · exact (eS [.gone,.to 0] [some 1])
   refine Aq ?_
   refine zD rfl rfl ?_
   exact ⟨[.isl 1 w3],⟨⟨w3,rfl,(zx _ c3).symm⟩,trivial⟩,.of (sub_part rfl (by simpa using hle) (by simpa using hR2.symm))⟩
 have hqc:=Pat.closed q
 have hdl:d.length<1048576:=by have:=congrArg List.length hd;simp at this;omega
 have hbl:=bndF_len d
 have e1:=bndF_snoc d q
 generalize wa (d++[q])=b2 at *
 generalize wa d=b1 at *
 obtain ⟨qO,qA,qT,qV,qS,qN,qCo,qCa,qCv,qCf,qCk,qXk,qXn,qXt,hx2,hx2c,hqO,hqA,hqT,hqV,hqS,hqN⟩:=Pat.form2 q
 rw [hx2] at hqc ⊢
 simp only [← hqO,← hqV,← hqS] at *
 clear hx2 hx2c hqO hqA hqT hqV hqS hqN
 by_cases hq0:qO=0
 · have k1:iEq qO 0=true:=by simp only [ee];simpa using hq0
   rw [if_pos hq0] at e1
   have e2:mapE int b2=mapE int b1++[int qV]:=by rw [e1,zn,zn,List.map_append];rfl
   have e3:b2.length=b1.length+1:=by rw [e1];simp
   have hml:(mapE int b1).length=b1.length:=zr ..
   have hcb:=zM b1
   generalize b2.length=m2 at *
   generalize b1.length=m1 at *
   generalize mapE int b2=w2 at *
   generalize mapE int b1=w1 at *
   have e4:w2=catA (dropA w1 0) (partA [int qV] 0 1):=by simp only [ee];simpa using e2
   have e5:m2=addN m1 (lenN (partA [int qV] 0 1)):=by simp only [ee];simpa using e3
   have hcb2:AV.closedL (catA (dropA w1 0) (partA [int qV] 0 1))=true:=by simp only [ee];exact closedL_append (by simpa using hcb) rfl
   clear e2 e3 e1
   subst e4 e5
   refine Aq ?_
   refine xp rfl ?_
   have fz:=k1
   refine Cq ?_
   refine Aq ?_
   exact wJ rfl trivial (xQ [.to 0,.gone,.gone,.gone,.gone,.gone,.gone,.to 7,.gone,.gone,.gone,.gone,.to 8] [some 0,some 1,some 2,some 3,some 4,some 5,some 6,some 7,some 12,none] rfl ⟨rfl,rfl,rfl,rfl,rfl,rfl,rfl,rfl,trivial⟩ (by simp) (by simp) ⟨⟨by simp,rfl⟩,trivial,trivial,trivial,trivial,trivial,trivial,⟨by simp,rfl⟩,trivial,trivial,trivial,trivial,⟨by simp,rfl⟩,trivial⟩ ⟨zk (b:=0) rfl rfl rfl ⟨.refl _,trivial⟩,.dead,.dead,.dead,.dead,.dead,.dead,.some 7 _ _ rfl rfl rfl (.loop _ _ _ _ _ _ _ _ ⟨.cl hip,.refl _,trivial⟩),wL (b:=12) rfl rfl rfl rfl hcb2,.dead,trivial⟩)
 have k1:iEq qO 0=false:=by simp only [ee];simpa using hq0
 rw [if_neg hq0] at e1
 rw [e1]
 have hcb:=zM b1
 generalize b1.length=m1 at *
 generalize mapE int b1=w1 at *
 refine Aq ?_
 refine xp rfl ?_
 have fz:=k1
 refine Cq ?_
 refine Aq ?_
 exact wJ rfl trivial (xQ [.to 0,.gone,.gone,.gone,.gone,.gone,.gone,.to 7,.to 8,.gone,.gone] [some 0,some 1,some 2,some 3,some 4,some 5,some 6,some 7,some 8,none] rfl ⟨rfl,rfl,rfl,rfl,rfl,rfl,rfl,rfl,trivial⟩ (by simp) (by simp) ⟨⟨by simp,rfl⟩,trivial,trivial,trivial,trivial,trivial,trivial,⟨by simp,rfl⟩,⟨by simp,rfl⟩,trivial,trivial,trivial⟩ ⟨zk (b:=0) rfl rfl rfl ⟨.refl _,trivial⟩,.dead,.dead,.dead,.dead,.dead,.dead,.some 7 _ _ rfl rfl rfl (.loop _ _ _ _ _ _ _ _ ⟨.cl hip,.refl _,trivial⟩),wL (b:=8) rfl rfl rfl rfl hcb,.dead,trivial⟩)
theorem comp_split (zs:List Int):∀ m,m≤zs.length→zs.Pairwise (·≤·) →
 (Lib.compactUpTo zs.toArray m).Pairwise (· < ·)∧(∀ n,n∈Lib.compactUpTo zs.toArray m↔n∈zs.take m):=by
 intro m
 induction m with
 | zero=>intro _ _;simp [Lib.compactUpTo]
 | succ m ih =>
  intro hm hp
  obtain ⟨i1,i2⟩:=ih (by omega) hp
  have hz:zs.toArray[m]! = zs[m]:=by simp [getElem!_pos,show m<zs.length by omega]
  have htk:zs.take (m+1)=zs.take m++[zs[m]]:=by rw [List.take_succ_eq_append_getElem (by omega)]
  rw [Lib.compactUpTo_succ,hz]
  have hle:∀ n∈zs.take m,n≤zs[m]:=by
   intro n hn
   obtain ⟨j,hj,rfl⟩:=List.mem_iff_getElem.1 hn
   have hj':j<m:=by simp at hj;omega
   rw [List.getElem_take]
   exact (List.pairwise_iff_getElem.1 hp) j m (by omega) (by omega) hj'
  by_cases hk:Lib.keeps zs.toArray m=true
  · rw [if_pos hk]
    constructor
    · rw [List.pairwise_append]
      refine ⟨i1,by simp,fun x hx y hy=>?_⟩
      simp at hy;subst hy
      have hx':=(i2 x).1 hx
      have h1:=hle x hx'
      by_cases hm0:m=0
      · subst hm0;simp at hx'
      have hne:zs[m]≠zs[m - 1]:=by
       intro he
       have:Lib.keeps zs.toArray m=false:=Lib.keeps_neg (by omega) (by
        rw [hz];simp [getElem!_pos,show m - 1<zs.length by omega];exact he)
       rw [hk] at this;cases this
      have h2:x≤zs[m - 1]:=by
       obtain ⟨j,hj,rfl⟩:=List.mem_iff_getElem.1 hx'
       have hj':j<m:=by simp at hj;omega
       rw [List.getElem_take]
       by_cases hjm:j=m - 1
       · subst hjm;exact Int.le_refl _
       exact (List.pairwise_iff_getElem.1 hp) j (m - 1) (by omega) (by omega) (by omega)
      have h3:=(List.pairwise_iff_getElem.1 hp) (m - 1) m (by omega) (by omega) (by omega)
      omega
    intro n
    rw [htk,List.mem_append,List.mem_append,i2]
  rw [if_neg hk,List.append_nil]
  refine ⟨i1,fun n=>?_⟩
  rw [htk,List.mem_append,i2,List.mem_singleton]
  refine ⟨.inl,?_⟩
  rintro (h | rfl)
  · exact h
  have hm0:m≠0:=by rintro rfl;exact hk (Lib.keeps_lt_one _ 0 (by omega))
  have he:zs[m]=zs[m - 1]:=by
   by_cases he:zs[m]=zs[m - 1]
   · exact he
   exact absurd (Lib.keeps_pos (d:=zs.toArray) (m:=m) (by rw [hz];simp [getElem!_pos,show m - 1<zs.length by omega];exact he)) hk
  rw [he]
  exact List.mem_take_iff_getElem.2 ⟨m - 1,by omega,rfl⟩
theorem comp_ok (zs:List Int) (hp:zs.Pairwise (·≤·)):(Lib.compact zs).Pairwise (· < ·)∧∀ n,n∈Lib.compact zs↔n∈zs:=by
 have:=comp_split zs zs.length (Nat.le_refl _) hp
 rw [List.take_length] at this
 exact this
theorem sort_sorted (l:List Int):(yE l).Pairwise (·≤·):=by
 have:=List.pairwise_mergeSort (le:=fun x y:Int=>decide (x≤y)) (fun a b c h1 h2=>by simp at *;omega) (fun a b=>by simp;omega) l
 exact this.imp (by intro a b h;simpa using h)
theorem sort_mem (l:List Int) (n:Int):n∈yE l↔n∈l:=by simp [yE,List.mem_mergeSort]
theorem Pat.bound_mem {p:Pat} (n:Int):n∈p.bound↔n∈wa p.nodes:=by
 rw [Pat.bound,(comp_ok _ (sort_sorted _)).2,sort_mem]
theorem Pat.bound_nodup (p:Pat):p.bound.Pairwise (· < ·):=(comp_ok _ (sort_sorted _)).1
theorem vb {p:Pat} (h:p.chk=0):p.wholeE=0∧(yg p.nodes).2.2=true:=by
 unfold Pat.chk at h
 split at h
 · exact absurd h (by assumption)
 rename_i h1
 split at h
 · exact ⟨by simpa using h1,by assumption⟩
 cases h
theorem cnt_node : ∀ p:Pat,∀ q∈p.nodes,q.cnt≤p.cnt∧q.dep≤p.dep∧(∀ x∈q.nodes,x∈p.nodes):=by
 refine Pat.ind fun o a t v s n c ih q hq=>?_
 rw [Pat.nodes,List.mem_cons] at hq
 rcases hq with rfl | hq
 · exact ⟨Nat.le_refl _,Nat.le_refl _,fun x hx=>hx⟩
 obtain ⟨e,he,hqe⟩:=Pat.mem_nodesL hq
 obtain ⟨h1,h2,h3⟩:=ih e he q hqe
 have h4:=Pat.cnt_mem he
 have h5:e.dep≤Pat.depL 0 a:=by
  have:∀ (l:List Pat) (d:Nat),d≤Pat.depL d l∧∀ e∈l,e.dep≤Pat.depL d l:=by
   intro l
   induction l with
   | nil=>intro d;simp [Pat.depL]
   | cons x r ih =>
    intro d
    have:=ih (max d x.dep)
    rw [Pat.depL]
    refine ⟨by omega,fun e he=>?_⟩
    rcases List.mem_cons.1 he with rfl | he
    · omega
    exact this.2 e he
  exact (this a 0).2 e he
 refine ⟨by rw [Pat.cnt];omega,by rw [Pat.dep];omega,fun x hx=>?_⟩
 rw [Pat.nodes]
 refine List.mem_cons_of_mem _ ?_
 obtain ⟨l1,l2,rfl⟩:=List.append_of_mem he
 rw [Pat.nodesL_append,Pat.nodesL]
 simp [h3 x hx]
theorem chkR_zero {p:Pat}:p.chkR=0↔p.cnt≤64∧p.dep≤12∧∀ q∈p.nodes,q.nodeE=0:=by
 unfold Pat.chkR
 by_cases h1:64<p.cnt
 · rw [if_pos h1];simp;omega
 rw [if_neg h1]
 by_cases h2:12<p.dep
 · rw [if_pos h2];simp;omega
 rw [if_neg h2]
 exact ⟨fun h=>⟨by omega,by omega,firstE_zero h⟩,fun h=>xc h.2.2⟩
structure Plc where
 us:List Int
 si:List Int
 fb:Int
noncomputable def Plc.enc (s:Plc):AV:=.agg [.isl 1 (mapE int s.us),.isl 1 (mapE int s.si),int s.fb]
theorem Plc.closed (s:Plc):s.enc.closed=true:=by simp [Plc.enc,AV.closed,AV.closedL,zM]
def yQ (a b:List Int):List Int:=Lib.compact (yE (a++b))
theorem uni_mem (a b:List Int) (n:Int):n∈yQ a b↔n∈a∨n∈b:=by
 unfold yQ
 rw [(comp_ok _ (sort_sorted _)).2,sort_mem,List.mem_append]
theorem y8 (a b:List Int):(yQ a b).Pairwise (· < ·):=(comp_ok _ (sort_sorted _)).1
theorem uni_ext {a b c:List Int} (hc:c.Pairwise (· < ·)) (h:∀ n,n∈c↔n∈a∨n∈b):yQ a b=c :=
 sorted_ext _ _ (y8 a b) hc fun n=>by rw [uni_mem,h]
theorem uni_len (a b:List Int):(yQ a b).length≤a.length+b.length:=by
 unfold yQ
 have h1:(Lib.compact (yE (a++b))).length≤(yE (a++b)).length:=vj _
 rw [ub] at h1
 simpa using h1
theorem nodup_le : ∀ (n:Nat) (l:List Int),l.Nodup→(∀ v∈l,0≤v∧v<n)→l.length≤n
 | 0,l,_,h=>by
  cases l with
  | nil=>simp
  | cons x r=>have:=h x (by simp);omega
 | n+1,l,hn,h=>by
  by_cases hm:(n:Int)∈l
  · have h1:=nodup_le n (l.erase n) (hn.erase _) (fun v hv=>by
     have:=(List.Nodup.mem_erase_iff hn).1 hv
     have:=h v this.2
     omega)
    rw [List.length_erase_of_mem hm] at h1
    omega
  have:=nodup_le n l hn (fun v hv=>by
   have:=h v hv
   have:v≠n:=fun e=>hm (e ▸ hv)
   omega)
  omega
def VR (l:List Int):Prop:=∀ n∈l,0≤n∧n<16
theorem VR.uni {a b:List Int} (ha:VR a) (hb:VR b):VR (yQ a b):=fun n hn=>by
 rcases (uni_mem a b n).1 hn with h | h
 · exact ha n h
 exact hb n h
theorem VR.len {l:List Int} (h:VR l) (hs:l.Pairwise (· < ·)):l.length≤16:=nodup_le 16 l (hs.imp fun h=>by omega) h
def uV (o:Int):Bool:=decide (o=0∨o=1∨o=3∨o=5∨o=6∨o=7)
def wp (o:Int):Bool:=decide (o=0∨o=5∨o=7)
mutual
def Pat.ones : Pat→List Int
 | .mk o a _ v _ _ _=>if uV o=true then (if o=0 then [v] else Pat.onesL [] a) else []
def Pat.onesL : List Int→List Pat→List Int
 | acc,[]=>acc
 | acc,e :: r=>Pat.onesL (yQ acc e.ones) r
end
def Pat.arg0 (p:Pat):Pat:=p.args.headD Pat0
def Pat.own (p:Pat) (l:Plc):Plc :=
 if p.op=0 then ⟨yQ l.us [p.var],yQ l.si [p.var],-1⟩
 else if p.op=5 then ⟨yQ (yQ l.us p.arg0.bound) [p.var],yQ l.si [p.var],p.var⟩
 else ⟨yQ l.us p.arg0.bound,yQ l.si p.arg0.ones,-1⟩
def Plc.plus (l:Plc) (e:Pat):Plc:=⟨yQ l.us e.bound,yQ l.si e.ones,-1⟩
mutual
def Pat.lf : Plc→Pat→List (Pat × Plc)
 | l,.mk o a t v s n c=>(.mk o a t v s n c,l) :: Pat.lfL (decide (o=1)) l a
def Pat.lfL : Bool→Plc→List Pat→List (Pat × Plc)
 | _,_,[]=>[]
 | b,l,e :: r=>Pat.lf l e++Pat.lfL b (if b then l.plus e else l) r
end
def PlcS : Plc:=⟨[],[],-1⟩
theorem Pat.lfL_map {r:List Pat} (h:∀ e∈r,∀ l,(Pat.lf l e).map Prod.fst=e.nodes):∀ b l,(Pat.lfL b l r).map Prod.fst=Pat.nodesL r:=by
 induction r with
 | nil=>intro b l;rfl
 | cons x r ih =>
  intro b l
  rw [Pat.lfL,Pat.nodesL,List.map_append,h x (by simp),ih fun e he=>h e (by simp [he])]
theorem Pat.lf_map : ∀ p:Pat,∀ l,(Pat.lf l p).map Prod.fst=p.nodes:=Pat.ind fun o a t v s n c h l=>by
 rw [Pat.lf,Pat.nodes,List.map_cons,Pat.lfL_map h]
theorem Pat.lf_len (p:Pat) (l:Plc):(Pat.lf l p).length=p.cnt:=by rw [← Pat.nodes_len,← Pat.lf_map p l,List.length_map]
noncomputable def tU (s:Plc) (e:Ex):Int:=open Classical in
 if 1≤e.op∧e.op≤4 then (if e.var∉s.us then 10 else if ((e.op=1∨e.op=2)∧e.var∉s.si)∨((e.op=3∨e.op=4)∧e.var=s.fb) then 11 else 0) else 0
noncomputable def Ex.fol (s:Plc) (e:Ex):Int:=zu (tU s) e.nodes
noncomputable def xw (x:Pat × Plc):Int:=if wp x.1.op=true then x.1.cond.fol (x.1.own x.2) else 0
def yX {α:Type} (F:α→Int):List α→Int
 | []=>0
 | x :: r=>if F x≠0 then 0 else if zu F r≠0 then yX F r+1 else 0
noncomputable def Pat.scE (p:Pat):Int:=if p.chk≠0 then p.chk else zu xw (Pat.lf PlcS p)
noncomputable def Pat.scI (p:Pat):Int:=if p.chk≠0 then 0 else yX xw (Pat.lf PlcS p)
noncomputable def uj (s:Plc) (e:Ex):Int:=if e.chk≠0 then e.chk else e.fol s
noncomputable def Pat.retP (p:Pat):Plc:=⟨p.bound,p.ones,-1⟩
noncomputable def Pat.rtE (p:Pat) (l:List Ex):Int:=if p.chk≠0 then p.chk else if 256<l.length then 5 else zu (uj p.retP) l
noncomputable def Pat.rtI (p:Pat) (l:List Ex):Int:=if p.chk≠0 then 0 else if 256<l.length then 0 else yX (uj p.retP) l
def Pat.nok (q:Pat):Prop:=0≤q.op∧q.op<8∧(zJ q.op=true→0≤q.var∧q.var<16)∧(q.op=0→q.args=[])∧(q.op=5∨q.op=6∨q.op=7→∃ e,q.args=[e])
theorem nodeE_nok {q:Pat} (h:q.nodeE=0) (h8:q.op<8):q.nok:=by
 unfold Pat.nodeE at h
 by_cases h1:q.op<0∨11≤q.op
 · rw [if_pos h1] at h;cases h
 rw [if_neg h1] at h
 by_cases h2:(q.args.length:Int)<wd q.op∨vc q.op<q.args.length
 · rw [if_pos h2] at h;cases h
 rw [if_neg h2] at h
 by_cases h3:(zJ q.op=true∧(q.ty<0∨15<q.ty∨q.var<0∨15<q.var))∨(yP q.op=true∧(q.scope<0∨63<q.scope))∨(xx q.op=true∧(q.span<0∨1099511627776<q.span))
 · rw [if_pos h3] at h;cases h
 refine ⟨by omega,h8,fun ht=>⟨Int.not_lt.1 fun hh=>h3 (.inl ⟨ht,.inr (.inr (.inl hh))⟩),?_⟩,fun h0=>?_,fun h5=>?_⟩
 · have:¬ 15<q.var:=fun hh=>h3 (.inl ⟨ht,.inr (.inr (.inr hh))⟩)
   omega
 · have hm:vc q.op=0:=by rw [h0];rfl
   rw [hm] at h2
   exact List.length_eq_zero_iff.1 (by omega)
 have hm:wd q.op=1∧vc q.op=1:=by rcases h5 with h5 | h5 | h5<;>rw [h5]<;>exact ⟨rfl,rfl⟩
 rw [hm.1,hm.2] at h2
 exact List.length_eq_one_iff.1 (by omega)
def Pat.wf (p:Pat):Prop:=∀ q∈p.nodes,q.nok
theorem chk_wf {p:Pat} (h:p.chk=0):p.wf:=fun q hq =>
 nodeE_nok ((w9 (vb h).1).2.1 q hq) ((w9 (vb h).1).2.2 q hq)
theorem Pat.wf.arg {o a t v s n c} (h:(Pat.mk o a t v s n c).wf) {e:Pat} (he:e∈a):e.wf:=fun q hq=>h q (by
 rw [Pat.nodes]
 obtain ⟨d,r,rfl⟩:=List.append_of_mem he
 simp [Pat.nodesL_append,Pat.nodesL,hq])
theorem Pat.wf.self {p:Pat} (h:p.wf):p.nok:=h p (by rw [Pat.nodes_eq];simp)
theorem Pat.wf.node {p q:Pat} (h:p.wf) (hq:q∈p.nodes):q.wf:=fun x hx=>h x ((cnt_node p q hq).2.2 x hx)
theorem bound_vr {p:Pat} (h:p.wf):VR p.bound:=fun n hn=>by
 rw [Pat.bound_mem] at hn
 unfold wa at hn
 obtain ⟨q,hq,rfl⟩:=List.mem_map.1 hn
 have hq:=List.mem_filter.1 hq
 have h0:q.op=0:=by simpa using hq.2
 exact (h q hq.1).2.2.1 (by rw [h0];rfl)
theorem vE : ∀ p:Pat,p.wf→p.ones.Pairwise (· < ·)∧VR p.ones:=Pat.ind fun o a t v s n c ih h=>by
 have hL:∀ (r:List Pat) (acc:List Int),(∀ e∈r,e∈a)→acc.Pairwise (· < ·)∧VR acc→(Pat.onesL acc r).Pairwise (· < ·)∧VR (Pat.onesL acc r):=by
  intro r
  induction r with
  | nil=>intro acc _ ha;rw [Pat.onesL];exact ha
  | cons x r ihr =>
   intro acc hm ha
   rw [Pat.onesL]
   exact ihr _ (fun e he=>hm e (by simp [he])) ⟨y8 _ _,ha.2.uni (ih x (hm x (by simp)) (h.arg (hm x (by simp)))).2⟩
 rw [Pat.ones]
 split
 · split
   · rename_i _ h0
     refine ⟨List.pairwise_singleton _ _,fun n hn=>?_⟩
     simp at hn
     have:=h.self.2.2.1 (by simp only [Pat.op];rw [h0];rfl)
     simp only [Pat.var] at this
     omega
   exact hL a [] (fun _ h=>h) ⟨List.Pairwise.nil,fun _ h=>by cases h⟩
 exact ⟨List.Pairwise.nil,fun _ h=>by cases h⟩
theorem ones_len {p:Pat} (h:p.wf):p.ones.length≤16:=(vE p h).2.len (vE p h).1
theorem bound_len {p:Pat} (h:p.wf):p.bound.length≤16:=(bound_vr h).len p.bound_nodup
theorem uni_nil {a:List Int} (h:a.Pairwise (· < ·)):yQ [] a=a:=uni_ext h fun n=>by simp
def Plc.ok (l:Plc):Prop:=VR l.us∧VR l.si∧l.us.length≤16∧l.si.length≤16
theorem PlcS_ok : PlcS.ok:=⟨fun _ h=>(by cases h),fun _ h=>(by cases h),by decide,by decide⟩
theorem Plc.ok.plus {l:Plc} (h:l.ok) {e:Pat} (he:e.wf):(l.plus e).ok:=by
 have h1:=h.1.uni (bound_vr he)
 have h2:=h.2.1.uni (vE e he).2
 exact ⟨h1,h2,h1.len (y8 _ _),h2.len (y8 _ _)⟩
theorem own_ok {q:Pat} (hq:q.wf) (ht:wp q.op=true) {l:Plc} (hl:l.ok):(q.own l).ok:=by
 have hn:=hq.self
 have v1:zJ q.op=true→VR [q.var]:=fun h n hn2=>by simp at hn2;rw [hn2];exact hn.2.2.1 h
 have fin:∀ a b c,VR a→VR b→a.Pairwise (· < ·)→b.Pairwise (· < ·)→(⟨a,b,c⟩:Plc).ok:=fun a b c h1 h2 h3 h4=>⟨h1,h2,h1.len h3,h2.len h4⟩
 unfold Pat.own
 by_cases h0:q.op=0
 · rw [if_pos h0]
   have v1:=v1 (by rw [h0];rfl)
   exact fin _ _ _ (hl.1.uni v1) (hl.2.1.uni v1) (y8 _ _) (y8 _ _)
 rw [if_neg h0]
 have h57:q.op=5∨q.op=7:=by unfold wp at ht;simp at ht;omega
 obtain ⟨e,he⟩:=hn.2.2.2.2 (by omega)
 have hea:q.arg0=e:=by unfold Pat.arg0;rw [he];rfl
 have hew:e.wf:=by
  obtain ⟨o,a,t,v,s,n,c⟩:=q
  simp only [Pat.args] at he
  exact hq.arg (by rw [he];simp)
 rw [hea]
 by_cases h5:q.op=5
 · rw [if_pos h5]
   have v1:=v1 (by rw [h5];rfl)
   exact fin _ _ _ ((hl.1.uni (bound_vr hew)).uni v1) (hl.2.1.uni v1) (y8 _ _) (y8 _ _)
 rw [if_neg h5]
 exact fin _ _ _ (hl.1.uni (bound_vr hew)) (hl.2.1.uni (vE e hew).2) (y8 _ _) (y8 _ _)
theorem O_Grow (n:Nat) (hn:n<500000000000):OCall EE 180 [.val (.slice none 0 0),int n] (.sl 0 1 0 0) [.arr 1 []]:=by
 have hn0:(0:Int)≤n:=by omega
 have hn1:(n:Int)<500000000000:=by omega
 generalize (n:Int)=m at hn0 hn1 ⊢
 refine zt ?_;unhygienic intros
 refine oB T180 [.t 4] ?_
 refine goA 0 ?_
 refine oC (fun h1=>?_) fun h1=>?_
 · exfalso
   simp [ee] at h1
   omega
 have hs0:iSub .i64 (Int.ofNat 0) (Int.ofNat 0)=0:=by rw [e_iSub];simp [Wd.iSub,IntKind.wrap_i64]
 have hs:iSub .i64 m 0=m:=by
  rw [e_iSub];simp [Wd.iSub,IntKind.wrap_i64];omega
 have fz:=And.intro hs0 hs
 refine Cq ?_
 refine oC (fun h2=>?_) fun h2=>?_
 · simp [ee] at h2
   refine goA 0 ?_
   exact yL (F2:=[(4,.sl 0 1 0 0)]) (H2:=[.arr 1 []]) (.trans (ent_trunc (b:=0) (m:=0) rfl (by simp)) (yj [.to 0] [some 0] ⟨⟨by simp,rfl⟩,trivial⟩ ⟨wL (b:=0) rfl rfl rfl rfl rfl,trivial⟩ ⟨.of (by simp only [ee];rfl),trivial⟩)) rfl ⟨rfl,rfl⟩
 simp [ee] at h2
 refine goA 0 ?_
 exact yL (F2:=[(4,.sl 0 1 0 0)]) (H2:=[.arr 1 []]) (eS [] [none]) rfl ⟨rfl,rfl⟩
theorem O_Concat (a b:List Int) (ha:a.length<1048577) (hb:b.length<1048577):OCall EE 165 [.isl 1 [.isl 1 (mapE int a),.isl 1 (mapE int b)]] (.sl 0 1 0 (a++b).length) [.arr 1 (mapE int (a++b))]:=by
 have hg:=O_Grow (a.length+b.length) (by omega)
 have hal:(mapE int a).length=a.length:=zr ..
 have hbl:(mapE int b).length=b.length:=zr ..
 have hac:=zM a
 have hbc:=zM b
 have haf:=fitInt a
 have hbf:=fitInt b
 have hab:mapE int (a++b)=mapE int a++mapE int b:=by rw [zn,zn,zn,List.map_append]
 rw [hab]
 obtain ⟨al,hal2⟩:∃ z:Int,z=a.length:=⟨_,rfl⟩
 obtain ⟨tl,htl2⟩:∃ z:Int,z=((a.length+b.length:Nat):Int):=⟨_,rfl⟩
 obtain ⟨la,hla⟩:∃ z:Nat,z=a.length:=⟨_,rfl⟩
 rw [← htl2] at hg
 obtain ⟨lab,hlab⟩:∃ z:Nat,z=(a++b).length:=⟨_,rfl⟩
 rw [← hlab]
 rw [List.length_append] at hlab
 generalize hea:mapE int a=ea at *
 generalize heb:mapE int b=eb at *
 obtain ⟨eab,heab⟩:∃ z,z=ea++eb:=⟨_,rfl⟩
 rw [← heab]
 have habc:AV.closedL eab=true:=by rw [heab];exact closedL_append hac hbc
 have hablen:eab.length=lab:=by rw [heab,List.length_append];omega
 refine zt ?_;unhygienic intros
 have hi0:iAdd .i64 0 1=1:=by rw [wZ e_iAdd (by omega) (by omega)];rfl
 have hi1:iAdd .i64 1 1=2:=by rw [wZ e_iAdd (by omega) (by omega)];rfl
 have hl2:lenA [.isl 1 ea,.isl 1 eb]=2:=by simp only [ee];rfl
 have ht0:atA [.isl 1 ea,.isl 1 eb] 0=.isl 1 ea:=by simp only [ee];rfl
 have ht1:atA [.isl 1 ea,.isl 1 eb] 1=.isl 1 eb:=by simp only [ee];rfl
 have c0:iLt 0 2=true:=by simp only [ee];rfl
 have c1:iLt 1 2=true:=by simp only [ee];rfl
 have c2:iLt 2 2=false:=by simp only [ee];rfl
 have s1:iAdd .i64 0 (lenA ea)=al:=by rw [wZ e_iAdd (by simp only [ee];omega) (by simp only [ee];omega)];simp only [ee];omega
 have s2:iAdd .i64 al (lenA eb)=tl:=by rw [wZ e_iAdd (by simp only [ee];omega) (by simp only [ee];omega)];simp only [ee];omega
 have n1:iLt al 0=false:=by simp only [ee];simp;omega
 have n2:iLt tl 0=false:=by simp only [ee];simp;omega
 have hcI:(AV.isl 1 [.isl 1 ea,.isl 1 eb]).closed=true:=by simp [AV.closed,AV.closedL,hac,hbc]
 have haI:(AV.isl 1 ea).closed=true:=by simp [AV.closed,hac]
 have hbI:(AV.isl 1 eb).closed=true:=by simp [AV.closed,hbc]
 have u1:catA (dropA [] 0) ea=ea:=by simp only [ee];rfl
 have u2:addN 0 (lenN ea)=la:=by simp only [ee];omega
 have u3:catA (dropA ea 0) eb=eab:=by simp only [ee];rw [heab];rfl
 have u4:addN la (lenN eb)=lab:=by simp only [ee];omega
 refine oB T165 [.t 2] ?_
 have fz:=hl2
 refine Cq ?_
 refine Aq ?_
 refine za (ι:=Int × Int) (fun p=>([(11,int p.1),(10,int 2),(9,.isl 1 [.isl 1 ea,.isl 1 eb]),(0,.isl 1 [.isl 1 ea,.isl 1 eb]),(3,int p.2)],[])) (fun p=>(p.1=0∧p.2=0)∨(p.1=1∧p.2=al)∨(p.1=2∧p.2=tl)) (fun p=>(2 - p.1).toNat) (0,0) (.inl ⟨rfl,rfl⟩) ?_ ?_
 · exact (eS [] [])
 rintro ⟨i,t⟩ gi
 dsimp only at gi ⊢
 rcases gi with ⟨gi,gt⟩ | ⟨gi,gt⟩ | ⟨gi,gt⟩
 · rw [gi,gt]
   have fz:=And.intro c0 (And.intro hi0 (And.intro ht0 (And.intro s1 n1)))
   refine Cq ?_
   refine Cr ?_
   refine Aq ?_
   refine zp (1,al) (.inr (.inl ⟨rfl,rfl⟩)) (by simp) (yj [] [] trivial trivial ⟨.of (congrArg int (by assumption)),.refl _,.cl hcI,.cl hcI,.refl _,trivial⟩)
 · rw [gi,gt]
   have fz:=And.intro c1 (And.intro hi1 (And.intro ht1 (And.intro s2 n2)))
   refine Cq ?_
   refine Cr ?_
   refine Aq ?_
   refine zp (2,tl) (.inr (.inr ⟨rfl,rfl⟩)) (by simp) (yj [] [] trivial trivial ⟨.of (congrArg int (by assumption)),.refl _,.cl hcI,.cl hcI,.refl _,trivial⟩)
 rw [gi,gt]
 clear gi gt i t
 have fz:=c2
 refine Cq ?_
 refine Aq ?_
 refine zl ?_
 refine Aq ?_
 refine vh (args:=[.val (.slice none 0 0),int tl]) (v':=.sl 0 1 0 0) (H':=[.arr 1 []]) rfl rfl rfl hg rfl rfl rfl ?_
 have fz:=hl2
 refine Cq ?_
 refine Aq ?_
 refine za (ι:=Int × Nat × List AV) (fun p=>([(27,int p.1),(26,int 2),(25,.isl 1 [.isl 1 ea,.isl 1 eb]),(6,.sl 0 1 0 p.2.1)],[.arr 1 p.2.2])) (fun p=>(p.1=0∧p.2.1=0∧p.2.2=[])∨(p.1=1∧p.2.1=la∧p.2.2=ea)∨(p.1=2∧p.2.1=lab∧p.2.2=eab)) (fun p=>(2 - p.1).toNat) (0,0,[]) (.inl ⟨rfl,rfl,rfl⟩) ?_ ?_
 · exact (eS [.to 0] [some 0])
 rintro ⟨i,m,w⟩ gi
 dsimp only at gi ⊢
 rcases gi with ⟨gi,gm,gw⟩ | ⟨gi,gm,gw⟩ | ⟨gi,gm,gw⟩
 · rw [gi,gm,gw]
   have fz:=And.intro c0 (And.intro hi0 (And.intro ht0 (And.intro u1 u2)))
   refine Cq ?_
   refine Cr ?_
   refine zp (1,la,ea) (.inr (.inl ⟨rfl,rfl,rfl⟩)) (by simp) (eS [.gone,.to 0] [some 1])
 · rw [gi,gm,gw]
   have fz:=And.intro c1 (And.intro hi1 (And.intro ht1 (And.intro u3 u4)))
   refine Cq ?_
   refine Cr ?_
   refine zp (2,lab,eab) (.inr (.inr ⟨rfl,rfl,rfl⟩)) (by simp) (eS [.gone,.to 0] [some 1])
 rw [gi,gm,gw]
 have fz:=c2
 refine Cq ?_
 refine Aq ?_
 refine zl ?_
 refine Aq ?_
 refine yL (F2:=[(2,.sl 0 1 0 lab)]) (H2:=[.arr 1 eab]) ?_ rfl ⟨rfl,rfl⟩
 exact (eS [.to 0] [some 0])
theorem vL (a b:List Int) (ha:a.length<1048577) (hb:b.length<1048577):PCall EE 140 [.isl 1 (mapE int a),.isl 1 (mapE int b)] (.isl 1 (mapE int (yQ a b))):=by
 have h1:=O_Concat a b ha hb
 have hlen:(a++b).length<4611686018427387904:=by rw [List.length_append];omega
 have hss:=C_Sort (a++b) hlen
 have hcc:=C_Compact (yE (a++b)) (by rw [ub];exact hlen)
 rw [ub] at hcc
 have hR:yQ a b=Lib.compact (yE (a++b)):=rfl
 have hac:=zM a
 have hbc:=zM b
 have haI:=zq a
 have hbI:=zq b
 have c1:=zM (a++b)
 have c2:=zM (yE (a++b))
 have c3:=zM (wx (yE (a++b)))
 have hR2:mapE int (yQ a b)=(mapE int (wx (yE (a++b)))).take (yQ a b).length:=by
  rw [hR,wx,zn,zn,List.map_append,List.take_left' (by simp)]
 have hle:(yQ a b).length≤(mapE int (wx (yE (a++b)))).length:=by
  rw [hR,zr,compI_len];exact vj _
 have hRc:=zM (yQ a b)
 rw [← hR] at hcc
 have hRl:(mapE int (yQ a b)).length=(yQ a b).length:=zr ..
 generalize mapE int a=ea at *
 generalize mapE int b=eb at *
 generalize mapE int (a++b)=w1 at *
 generalize mapE int (yE (a++b))=w2 at *
 generalize mapE int (wx (yE (a++b)))=w3 at *
 generalize mapE int (yQ a b)=wr at *
 generalize (a++b).length=m1 at *
 generalize (yQ a b).length=rl at *
 refine zt ?_;unhygienic intros
 have hcI:AV.closedL [.isl 1 ea,.isl 1 eb]=true:=by simp [AV.closedL,haI,hbI]
 refine fB T140 [.t 4] ?_
 refine Aq ?_
 refine yD (F':=[(8,.isl 1 [.isl 1 ea,.isl 1 eb])]) (H':=[]) ?_ ?_
 · exact (yj [.isl 1 ([AV.isl 1 ea,AV.isl 1 eb])] [] ⟨⟨_,rfl,(zx _ hcI).symm⟩,trivial⟩ trivial ⟨.refl _,trivial⟩)
 refine vh (args:=[.isl 1 [.isl 1 ea,.isl 1 eb]]) (v':=.sl 0 1 0 m1) (H':=[.arr 1 w1]) rfl rfl rfl h1 (by simpa [AV.closedL,AV.closed] using hcI) rfl (by simp [AObj.sub,zx _ c1]) ?_
 refine Aq ?_
 refine wi [0] rfl rfl enters_slices_Sort___int_int_ hss (by decide) (by simp) (by show _=[AObj.arr 1 (AV.subL _ w1)];rw [zx _ c1]) rfl ?_
 rintro v0 H' ⟨rfl,rfl⟩ -
 refine yD (F':=[(5,.sl 0 1 0 m1)]) (H':=[.arr 1 w2]) ?_ ?_
 · exact (eS [.to 0] [some 0])
 refine Aq ?_
 refine wi [0] rfl rfl enters_slices_Compact___int_int_ hcc (by decide) (by simp) (by show _=[AObj.arr 1 (AV.subL _ w2)];rw [zx _ c2]) rfl ?_
 rintro v0 H' ⟨rfl,rfl⟩ -
 refine yD (F':=[(13,.sl 0 1 0 rl)]) (H':=[.arr 1 w3]) ?_ ?_
 · exact (eS [.to 0] [some 0])
 refine Aq ?_
 refine zD rfl rfl ?_
 exact ⟨[.isl 1 w3],⟨⟨w3,rfl,(zx _ c3).symm⟩,trivial⟩,.of (sub_part rfl (by simpa using hle) (by simpa using hR2.symm))⟩
theorem sc_row {o:Int} (h0:0≤o) (h1:o<8):Wd.rowA (Classical.choice wN).g o 2=[bool (uV o),bool (wp o)]:=by
 rw [(Classical.choice wN).h]
 obtain ⟨n,rfl⟩:∃ n:Nat,o=n:=⟨o.toNat,by omega⟩
 have:n<8:=by omega
 match n,this with
 | 0,_ | 1,_ | 2,_ | 3,_ | 4,_ | 5,_ | 6,_ | 7,_=>rfl
theorem onesL_snoc (acc:List Int) (d:List Pat) (q:Pat):Pat.onesL acc (d++[q])=yQ (Pat.onesL acc d) q.ones:=by
 induction d generalizing acc with
 | nil=>rw [List.nil_append,Pat.onesL,Pat.onesL,Pat.onesL]
 | cons x r ih=>rw [List.cons_append,Pat.onesL,ih,Pat.onesL]
theorem onesL_ok {d:List Pat} (h:∀ e∈d,e.wf):(Pat.onesL [] d).Pairwise (· < ·)∧VR (Pat.onesL [] d)∧(Pat.onesL [] d).length≤16:=by
 have:∀ (n:Nat) (d:List Pat),d.length=n→(∀ e∈d,e.wf)→(Pat.onesL [] d).Pairwise (· < ·)∧VR (Pat.onesL [] d):=by
  intro n
  induction n with
  | zero=>intro d hd _;obtain rfl:=List.length_eq_zero_iff.1 hd;rw [Pat.onesL];exact ⟨List.Pairwise.nil,fun _ h=>by cases h⟩
  | succ n ih =>
   intro d hd hw
   have hne:d≠[]:=by rintro rfl;cases hd
   obtain ⟨e,x,rfl⟩:∃ e x,d=e++[x]:=⟨d.dropLast,d.getLast hne,(List.dropLast_concat_getLast hne).symm⟩
   rw [onesL_snoc]
   exact ⟨y8 _ _,(ih e (by simpa using hd) (fun y hy=>hw y (by simp [hy]))).2.uni (vE x (hw x (by simp))).2⟩
 obtain ⟨h1,h2⟩:=this _ d rfl h
 exact ⟨h1,h2,h2.len h1⟩
theorem P_ones : ∀ p:Pat,p.Sm→p.wf→PCall EE 110 [p.enc] (.isl 1 (mapE int p.ones)):=by
 refine Pat.ind ?_
 intro o a t v s n c ih hs hw
 have hlen:=hs.len
 have hih:∀ q∈a,PCall EE 110 [q.enc] (.isl 1 (mapE int q.ones)):=fun q hq=>ih q hq (hs.arg hq) (hw.arg hq)
 have hwa:∀ q∈a,q.wf:=fun q hq=>hw.arg hq
 obtain ⟨ho0,ho1,_,_,_⟩:=hw.self
 simp only [Pat.op] at ho0 ho1
 have hrow:=sc_row ho0 ho1
 have hcl:=Pat.closedI a
 have hpc:=Pat.closed (.mk o a t v s n c)
 have hcc:=Ex.closed c
 obtain ⟨R,hR⟩:∃ R,R=Pat.ones (.mk o a t v s n c):=⟨_,rfl⟩
 rw [← hR]
 rw [Pat.ones] at hR
 obtain ⟨cO,cA,cV,cF,cK,cXk,cXn,cXt,hcx⟩:=Ex.form c
 have hpx:=Pat.enc_c o a t v s n hcx
 simp only [List.cons_append,List.nil_append] at hpx
 rw [hpx] at hpc ⊢
 rw [hcx] at hcc
 have hcaI:(AV.isl 8 cA).closed=true:=by have:=hcc;simp [AV.closed,AV.closedL] at this ⊢;exact this
 have hnil:mapE int []=[]:=by rw [zn];rfl
 have hone:mapE int [v]=[int v]:=by rw [zn];rfl
 clear ih hs hw hpx hcx
 refine zt ?_;unhygienic intros
 generalize hes:mapE Pat.enc a=es at *
 have hel:es.length=a.length:=by rw [← hes,zr]
 have hrw:rowA (Classical.choice wN).g o 2=[bool (uV o),bool (wp o)]:=by rw [e_rowA];exact hrow
 have n0:bNot false=true:=by simp only [ee];rfl
 have n1:bNot true=false:=by simp only [ee];rfl
 generalize uV o=kp at *
 generalize wp o=ts at *
 refine fB T110 [.t 2] ?_
 cases kp with
 | false =>
  rw [if_neg (by decide)] at hR
  rw [hR,hnil]
  have fz:=And.intro hrw n0
  refine Cq ?_
  refine Aq ?_
  refine zD rfl rfl ?_
  exact ⟨[.gone],⟨trivial,trivial⟩,.nilI _⟩
 | true =>
 rw [if_pos rfl] at hR
 by_cases h0:o=0
 · have k0:iEq o 0=true:=by simp only [ee];simpa using h0
   rw [if_pos h0] at hR
   rw [hR,hone]
   have fz:=And.intro hrw (And.intro n1 k0)
   refine Cq ?_
   refine Cr ?_
   refine Aq ?_
   refine zD rfl rfl ?_
   exact ⟨[.gone,.isl 1 ([AV.val (Value.int IntKind.i64 v)])],⟨trivial,⟨_,rfl,(zx _ (by rfl)).symm⟩,trivial⟩,.refl _⟩
 have k0:iEq o 0=false:=by simp only [ee];simpa using h0
 rw [if_neg h0] at hR
 have q0:=hR
 have fz:=And.intro hrw (And.intro n1 k0)
 refine Cq ?_
 refine Cr ?_
 refine Aq ?_
 refine za (ι:=List Pat × List Pat × Int × List AV) (fun p=>([(21,int p.2.2.1),(20,int (lenA es)),(19,.isl 14 es),(3,.isl 1 p.2.2.2)],[])) (fun p=>a=p.1++p.2.1∧p.2.2.1=p.1.length∧p.2.2.2=mapE int (Pat.onesL [] p.1)) (fun p=>p.2.1.length) ([],a,0,[]) ⟨rfl,rfl,by rw [Pat.onesL];exact hnil.symm⟩ ?_ ?_
 · exact (yj [.gone] [] ⟨trivial,trivial⟩ trivial ⟨.refl _,.refl _,.cl hcl,.nilI _,trivial⟩)
 rintro ⟨d,r,i,L⟩ ⟨g1,gi,gL⟩
 dsimp only at g1 gi gL ⊢
 have hLI:(AV.isl 1 L).closed=true:=by rw [gL];exact zq _
 cases r with
 | nil =>
  have L1:=zw g1
  try simp only [List.length] at L1
  have hc:iLt i (lenA es)=false:=xg e_iLt e_lenA (by omega)
  rw [List.append_nil] at g1
  rw [hR,g1,← gL]
  have fz:=hc
  refine Cq ?_
  refine Aq ?_
  refine zl ?_
  refine Aq ?_
  refine zD rfl rfl ?_
  exact ⟨[],trivial,.cl hLI⟩
 | cons q r =>
  have L1:=zw g1
  try simp only [List.length] at L1
  have hc:iLt i (lenA es)=true:=xf e_iLt e_lenA (by omega)
  have hat:=z7 e_atA hes g1 gi
  have hqm:q∈a:=by rw [g1];simp
  have hq:=hih q hqm
  have hqw:=hwa q hqm
  have hdo:=onesL_ok (d:=d) (fun e he=>hwa e (by rw [g1];simp [he]))
  have hu:=vL (Pat.onesL [] d) q.ones (by have:=hdo.2.2;omega) (by have:=ones_len hqw;omega)
  have hsn:=onesL_snoc [] d q
  rw [← gL] at hu
  have hqc:=Pat.closed q
  have hqI:=zq q.ones
  have hi2:iAdd .i64 i 1=((d++[q]).length:Int):=by rw [List.length_append];exact yq e_iAdd gi (by omega)
  have hL2:mapE int (yQ (Pat.onesL [] d) q.ones)=mapE int (Pat.onesL [] (d++[q])):=by rw [hsn]
  have hL2c:=zq (yQ (Pat.onesL [] d) q.ones)
  generalize mapE int q.ones=qo at *
  generalize mapE int (yQ (Pat.onesL [] d) q.ones)=L2 at *
  obtain ⟨qO,qA,qT,qV,qS,qN,qCo,qCa,qCv,qCf,qCk,qXk,qXn,qXt,hy⟩:=Pat.form q
  rw [hy] at hat hqc hq
  have fz:=And.intro hc hat
  refine Cq ?_
  refine Cr ?_
  refine oPA hq ?_
  refine oPA hu ?_
  refine Aq ?_
  refine zp (d++[q],r,iAdd .i64 i 1,L2) ⟨by simp [g1],hi2,hL2⟩ (by simp) (yj [.gone] [] ⟨trivial,trivial⟩ trivial ⟨.refl _,.refl _,.cl hcl,.cl hL2c,trivial⟩)
theorem PlcS_enc : PlcS.enc=.agg [.isl 1 [],.isl 1 [],int (-1)]:=by
 unfold Plc.enc PlcS
 have:mapE int []=[]:=by rw [zn];rfl
 dsimp only
 rw [this]
noncomputable def Pat.nVars (p:Pat):Int:=if p.chk=0 then (yg p.nodes).1 else 0
noncomputable def Pat.nScs (p:Pat):Int:=if p.chk=0 then (yg p.nodes).2.1 else 0
theorem P_pattern_Count (p:Pat) (hs:p.Sm):PCall EE 53 [p.enc] (.tup [int p.nVars,int p.nScs,int p.chk]):=by
 have h1:=P_pattern_Check p hs
 have h2:=fun h:p.chk=0=>P_count p hs fun q hq=>nodeE_op ((w9 (vb h).1).2.1 q hq)
 have hcl:=Pat.closed p
 obtain ⟨A,hA⟩:∃ R,R=p.nVars:=⟨_,rfl⟩
 obtain ⟨B,hB⟩:∃ R,R=p.nScs:=⟨_,rfl⟩
 rw [← hA,← hB]
 unfold Pat.nVars at hA
 unfold Pat.nScs at hB
 generalize p.chk=ck at *
 generalize (yg p.nodes).1=c1 at *
 generalize (yg p.nodes).2.1=c2 at *
 generalize (yg p.nodes).2.2=c3 at *
 obtain ⟨pO,pA,pT,pV,pS,pN,pCo,pCa,pCv,pCf,pCk,pXk,pXn,pXt,hx⟩:=Pat.form p
 rw [hx] at h1 h2 hcl ⊢
 refine zt ?_;unhygienic intros
 refine fB T53 [.t 2,.t 3,.t 4] ?_
 by_cases g1:ck=0
 · have k1:iNe ck 0=false:=by simp only [ee];simpa using g1
   have h2:=h2 g1
   rw [if_pos g1] at hA hB
   rw [hA,hB,g1]
   rw [g1] at h1 k1
   refine Aq ?_
   refine oPA h1 ?_
   have fz:=k1
   refine Cq ?_
   refine Aq ?_
   refine oPA h2 ?_
   refine Aq ?_
   exact fE [.gone]
 have k1:iNe ck 0=true:=by simp only [ee];simpa using g1
 rw [if_neg g1] at hA hB
 rw [hA,hB]
 refine Aq ?_
 refine oPA h1 ?_
 have fz:=k1
 refine Cq ?_
 refine Aq ?_
 exact fE [.gone]
structure Vr where
 nm:Bs
 ty:Int
structure EncBoxV where
 vr:Vr→AV
 hv:∀ v,vr v=.agg [str (ba v.nm),int v.ty]
theorem encBoxV_ne : Nonempty EncBoxV:=⟨⟨fun v=>.agg [str (ba v.nm),int v.ty],fun _=>rfl⟩⟩
noncomputable def Vr.enc (v:Vr):AV:=(Classical.choice encBoxV_ne).vr v
theorem Vr.enc_eq (v:Vr):v.enc=.agg [str (ba v.nm),int v.ty]:=(Classical.choice encBoxV_ne).hv v
theorem Vr.closed (v:Vr):v.enc.closed=true:=by rw [Vr.enc_eq];rfl
theorem Vr.closedL (l:List Vr):AV.closedL (mapE Vr.enc l)=true:=xb Vr.closed l
theorem Vr.closedI (l:List Vr):(AV.isl 2 (mapE Vr.enc l)).closed=true:=by simp [AV.closed,Vr.closedL]
def wn (ts:List Sch) (vs:List Vr) (o v f k xk:Int):Int × Int :=
 if o=0 then (xk,0)
 else if ¬ v<vs.length then (0,6)
 else if o=2∨o=3 then (0,0)
 else match vs[v.toNat]? with
  | none=>(0,0)
  | some x=>match ts[x.ty.toNat]? with
   | none=>(0,0)
   | some s=>if ¬ f<s.fs.length then (0,6) else match s.fs[f.toNat]? with
    | none=>(0,0)
    | some g=>if o=4∧(g.kd≠xk∨vJ k ⟨g.kd,0,⟨#[]⟩⟩=false) then (0,9) else (g.kd,0)
def fK (op h k:Int):Bool:=if op=5∨op=6∨op=7∨op=8 then decide (k=0) else if op=10∨op=11∨op=12 then decide (k=1) else if op=9 then decide (k=h) else true
def uH (op:Int) (l:List Int):Int:=if l.all (fK op (l.headD 0)) then 0 else 9
mutual
noncomputable def Ex.kindK (ts:List Sch) (vs:List Vr):Ex→Int × Int
 | .mk o a v f k x=>if a=[] then wn ts vs o v f k x.kind else match Ex.kindsK ts vs a with
  | .inl e=>(0,e)
  | .inr l=>if uH o l≠0 then (0,uH o l) else if o=5∨o=6 then (0,0) else (1,0)
noncomputable def Ex.kindsK (ts:List Sch) (vs:List Vr):List Ex→Int ⊕ List Int
 | []=>.inr []
 | e :: r=>if (Ex.kindK ts vs e).2≠0 then .inl (Ex.kindK ts vs e).2 else match Ex.kindsK ts vs r with
  | .inl x=>.inl x
  | .inr l=>.inr ((Ex.kindK ts vs e).1 :: l)
end
mutual
def Ex.nn : Ex→Prop
 | .mk _ a v f _ _=>0≤v∧0≤f∧Ex.nnL a
def Ex.nnL : List Ex→Prop
 | []=>True
 | e :: r=>e.nn∧Ex.nnL r
end
end Go.Am
end
