/- Contracts of the program's functions. -/
import Derived.Test.YtpdmaimjllhooaaGreatDoorCards
import Derived.Test.YtpdmaimjllhooaaGreatDoorProg
import Derived.Test.YtpdmaimjllhooaaGreatDoorRows
import Derived.Test.YtpdmaimjllhooaaGreatDoorTie
import Derived.Test.YtpdmaimjllhooaaGreatDoorRCt9
import Derived.Test.YtpdmaimjllhooaaGreatDoorRCt10
section
set_option maxHeartbeats 16000000
set_option maxRecDepth 100000
namespace Go.Am
open Go.Proofs
theorem P_refkind (ts:List Sch) (vs:List Vr) (pleaf:∀ e:Ex,0≤e.var→0≤e.fld→(e.op=4→1≤e.kind)→PCall EE 136 [.isl 2 (mapE Sch.enc ts),.isl 2 (mapE Vr.enc vs),e.enc] (.tup [int (wA ts vs e.op e.var e.fld e.kind e.val.kind).1,int (wA ts vs e.op e.var e.fld e.kind e.val.kind).2]))
 (pops:∀ op l,l.length<1048577→PCall EE 137 [int op,.isl 1 (mapE int l)] (int (um op l)))
 (pres:∀ op,PCall EE 138 [int op] (int (if op=5∨op=6 then 0 else 1))) :
 ∀ e:Ex,e.Sm→(∀ q∈e.nodes,0≤q.var∧0≤q.fld∧(q.op=4→1≤q.kind))→PCall EE 93 [.isl 2 (mapE Sch.enc ts),.isl 2 (mapE Vr.enc vs),e.enc] (.tup [int (e.kindK ts vs).1,int (e.kindK ts vs).2]):=by
 refine Ex.ind ?_
 intro o a v f k x ih hs hn
 have hlen:=hs.len
 have hih:∀ q∈a,_:=fun q hq=>ih q hq (hs.arg hq) fun q2 hq2=>hn q2 (by
  rw [Ex.nodes]
  obtain ⟨d,r,rfl⟩:=List.append_of_mem hq
  simp [Ex.nodesL_append,Ex.nodesL,hq2])
 have hn0:=hn _ (by rw [Ex.nodes];exact List.mem_cons_self)
 simp only [Ex.var,Ex.fld,Ex.op,Ex.kind] at hn0
 have pl:=pleaf (.mk o a v f k x) hn0.1 hn0.2.1 hn0.2.2
 have pr:=pres o
 have kts:=Sch.closedI ts
 have kvs:=Vr.closedI vs
 have kcl:=Ex.closedI a
 have kpc:=Ex.closed (.mk o a v f k x)
 obtain ⟨R,hR⟩:∃ R,R=Ex.kindK ts vs (.mk o a v f k x):=⟨_,rfl⟩
 rw [← hR]
 obtain ⟨xk,xn,xt⟩:=x
 rw [Ex.enc_mk] at pl kpc ⊢
 dsimp only at pl kpc ⊢
 simp only [Ex.op,Ex.var,Ex.fld,Ex.kind,Ex.val] at pl
 clear ih hs hn pleaf pres hn0
 obtain ⟨R1,R2⟩:=R
 by_cases ha:a=[]
 · rw [Ex.kindK,if_pos ha] at hR
   dsimp only at hR
   rw [← hR] at pl
   have hel:(mapE Ex.enc a).length=0:=by rw [zq,ha];rfl
   generalize mapE Sch.enc ts=ets at *
   generalize mapE Vr.enc vs=evs at *
   generalize mapE Ex.enc a=es at *
   clear hih pops pr
   refine zr ?_;unhygienic intros
   have k0:iEq (lenA es) 0=true:=by simp only [ee];simp [hel]
   refine fB T93 [.t 6,.t 7] ?_
   have fz:=k0
   refine Cq ?_
   refine Aq ?_
   refine oPA pl ?_
   refine Aq ?_
   exact fE [.gone]
 rw [kindK_all ha] at hR
 clear pl
 have hnil:mapE int []=[]:=by rw [zk];rfl
 have hel:(mapE Ex.enc a).length=a.length:=zq ..
 have ha0:a.length≠0:=by simpa using ha
 generalize hes:mapE Ex.enc a=es at *
 obtain ⟨rr,hrr⟩:∃ z:Int,z=if o=5∨o=6 then 0 else 1:=⟨_,rfl⟩
 rw [← hrr] at pr
 refine zr ?_;unhygienic intros
 have k0:iEq (lenA es) 0=false:=by simp only [ee];rw [hel];simpa using ha
 generalize mapE Sch.enc ts=ets at *
 generalize mapE Vr.enc vs=evs at *
 refine fB T93 [.t 6,.t 7] ?_
 have fz:=k0
 refine Cq ?_
 refine Aq ?_
 refine zf (ι:=List Ex × List Ex × Int × Nat × List AV × List Int) (fun p=>([(9,int p.2.2.1),(8,.sl 1 1 0 p.2.2.2.1),(5,.ptr 0 0),(1,.isl 2 evs),(0,.isl 2 ets)],[.cells [int o,.isl 8 es,int v,int f,int k,int xk,int xn,str xt],.arr 1 p.2.2.2.2.1])) (fun p=>a=p.1++p.2.1∧p.2.2.1=p.1.length∧p.2.2.2.1=p.2.2.2.2.1.length∧p.2.2.2.2.1=mapE int p.2.2.2.2.2∧p.2.2.2.2.2.length=p.1.length∧Ex.kindsK ts vs a=uG p.2.2.2.2.2 (Ex.kindsK ts vs p.2.1)) (fun p=>p.2.1.length) ([],a,0,0,[],[]) ⟨rfl,rfl,rfl,hnil.symm,rfl,(consK_nil _).symm⟩ ?_ ?_
 · exact (eS [.to 0] [some 0,none])
 rintro ⟨d,r,i,m,w,ks⟩ ⟨g1,gi,gm,gw,gk,gR⟩
 dsimp only at g1 gi gm gw gk gR ⊢
 have hcw:AV.closedL w=true:=by rw [gw];exact zU _
 cases r with
 | nil =>
  have L1:=zu g1
  try simp only [List.length] at L1
  have hc:iLt i (lenA es)=false:=yW e_iLt e_lenA (by omega)
  have po:=pops o ks (by omega)
  rw [Ex.kindsK,uG,List.append_nil] at gR
  rw [gR] at hR
  dsimp only at hR
  rw [← gw] at po
  obtain ⟨oe,hoe⟩:∃ z,z=um o ks:=⟨_,rfl⟩
  rw [← hoe] at po hR
  clear hih pops gR
  by_cases n1:oe=0
  · have q1:iNe oe 0=false:=by simp only [ee];simpa using n1
    rw [if_neg (by omega)] at hR
    have hR:R1=rr∧R2=0:=by
     rw [hrr];split at hR<;>(rename_i hh;injection hR with hR1 hR2;rw [hR1,hR2];simp [hh])
    rw [hR.1,hR.2]
    have fz:=And.intro hc q1
    refine Cq ?_
    refine Aq ?_
    refine zo ?_
    refine Aq ?_
    refine yp rfl rfl po rfl ⟨[.gone,.isl 1 (w)],⟨trivial,⟨_,rfl,(zp _ hcw).symm⟩,trivial⟩,⟨.refl _,.of (yh rfl (by assumption)),trivial⟩⟩ ?_
    refine Cq ?_
    refine Aq ?_
    refine oPA pr ?_
    refine Aq ?_
    exact fE [.gone,.gone]
  have q1:iNe oe 0=true:=by simp only [ee];simpa using n1
  rw [if_pos (by omega)] at hR
  injection hR with hR1 hR2
  rw [hR1,hR2]
  have fz:=And.intro hc q1
  refine Cq ?_
  refine Aq ?_
  refine zo ?_
  refine Aq ?_
  refine yp rfl rfl po rfl ⟨[.gone,.isl 1 (w)],⟨trivial,⟨_,rfl,(zp _ hcw).symm⟩,trivial⟩,⟨.refl _,.of (yh rfl (by assumption)),trivial⟩⟩ ?_
  refine Cq ?_
  refine Aq ?_
  exact fE [.gone,.gone]
 | cons q r =>
  have L1:=zu g1
  try simp only [List.length] at L1
  have hc:iLt i (lenA es)=true:=yY e_iLt e_lenA (by omega)
  have hat:=zP e_atA hes g1 gi
  have hq:=hih q (by rw [g1];simp)
  have hqc:=Ex.closed q
  obtain ⟨qO,qA,qV,qF,qK,qXk,qXn,qXt,hx⟩:=Ex.form q
  rw [hx] at hat hqc hq
  have hi2:iAdd .i64 i 1=((d++[q]).length:Int):=by rw [List.length_append];exact zJ e_iAdd gi (by omega)
  clear hih pops
  by_cases n1:(Ex.kindK ts vs q).2=0
  · rw [kindsK_good n1] at gR
    have hw2:catA (dropA w 0) (partA [int (Ex.kindK ts vs q).1] 0 1)=mapE int (ks++[(Ex.kindK ts vs q).1]):=by simp only [ee];rw [gw,zk,zk];simp
    have hcw2:AV.closedL (catA (dropA w 0) (partA [int (Ex.kindK ts vs q).1] 0 1))=true:=by rw [hw2];exact zU _
    have hm2:addN m (lenN (partA [int (Ex.kindK ts vs q).1] 0 1))=(catA (dropA w 0) (partA [int (Ex.kindK ts vs q).1] 0 1)).length:=by simp only [ee];simp [gm]
    have hk2:(ks++[(Ex.kindK ts vs q).1]).length=(d++[q]).length:=by simp [gk]
    have hmb:m<1048577:=by rw [gm,gw,zq];omega
    rw [n1] at hq
    generalize (Ex.kindK ts vs q).1=z1 at *
    have q1:iNe 0 0=false:=by simp only [ee];rfl
    clear hR
    have fz:=And.intro hc (And.intro hat q1)
    refine Cq ?_
    refine Cr ?_
    refine oPA hq ?_
    refine Cq ?_
    refine Aq ?_
    refine zw (d++[q],r,iAdd .i64 i 1,addN m (lenN (partA [int z1] 0 1)),catA (dropA w 0) (partA [int z1] 0 1),ks++[z1]) ⟨by simp [g1],hi2,hm2,hw2,hk2,gR⟩ (by simp) (eS [.to 0,.gone,.gone,.to 1] [some 0,some 3])
  rw [kindsK_bad n1] at gR
  rw [gR] at hR
  dsimp only at hR
  injection hR with hR1 hR2
  rw [hR1,hR2]
  have q1:iNe (Ex.kindK ts vs q).2 0=true:=by simp only [ee];simpa using n1
  generalize (Ex.kindK ts vs q).1=z1 at *
  generalize (Ex.kindK ts vs q).2=z2 at *
  have fz:=And.intro hc (And.intro hat q1)
  refine Cq ?_
  refine Cr ?_
  refine oPA hq ?_
  refine Cq ?_
  refine Aq ?_
  refine zl ?_
  refine Aq ?_
  exact fE [.gone,.gone]
def tN (op:Int):Int:=if op=5∨op=6∨op=7∨op=8 then 0 else if op=10∨op=11∨op=12 then 1 else -1
theorem P_demanded (op:Int):PCall EE 164 [int op] (int (tN op)):=by
 obtain ⟨R,hR⟩:∃ R,R=tN op:=⟨_,rfl⟩
 rw [← hR]
 unfold tN at hR
 refine zr ?_;unhygienic intros
 refine fB T164 [.t 2] ?_
 repeat' first
  | (refine uD rfl (fun c=>?_) (fun c=>?_)<;>(try simp [ee] at c))
  | (refine zR rfl rfl (.val ?_);first | (exfalso;omega) | exact congrArg (Value.int .i64) (by rw [hR];(repeat' split)<;>first | rfl | omega))
  | refine go rfl hX 0 (by conv=>lhs;cbv) (by exact trivial) ?_
theorem P_result (op:Int):PCall EE 138 [int op] (int (if op=5∨op=6 then 0 else 1)):=by
 obtain ⟨R,hR⟩:∃ R,R=if op=5∨op=6 then (0:Int) else 1:=⟨_,rfl⟩
 rw [← hR]
 refine zr ?_;unhygienic intros
 refine fB T138 [.t 2] ?_
 refine goA 0 ?_
 refine oC (fun c1=>?_) fun c1=>?_
 ·
  simp [ee] at c1
  refine Aq ?_
  refine zR rfl rfl (.val ?_)
  first | (exfalso;omega) | exact congrArg (Value.int .i64) (by rw [hR];(repeat' split)<;>first | rfl | omega)
 simp [ee] at c1
 refine Aq ?_
 refine zR rfl rfl (.val ?_)
 first | (exfalso;omega) | exact congrArg (Value.int .i64) (by rw [hR];(repeat' split)<;>first | rfl | omega)
theorem fK_dem (op h k:Int):fK op h k = !((decide (tN op ≥ 0) && decide (k≠tN op)) || (decide (op=9) && decide (k≠h))):=by
 rw [fK,tN]
 (repeat' split)<;>(rw [Bool.eq_iff_iff];simp;omega)
theorem P_refoperands (op:Int) (l:List Int) (hl:l.length<1048577):PCall EE 137 [int op,.isl 1 (mapE int l)] (int (um op l)):=by
 have kcl:=zx l
 have hel:=zq int l
 have pd:=P_demanded op
 have hfd:=fK_dem op
 obtain ⟨R,hR⟩:∃ R,R=um op l:=⟨_,rfl⟩
 obtain ⟨h,hh⟩:∃ h,h=l.headD 0:=⟨_,rfl⟩
 obtain ⟨dm,hdm⟩:∃ z,z=tN op:=⟨_,rfl⟩
 rw [← hdm] at pd hfd
 rw [← hR]
 refine zr ?_;unhygienic intros
 generalize hes:mapE int l=es at *
 refine fB T137 [.t 4] ?_
 refine Aq ?_
 refine zf (ι:=List Int × List Int × Int) (fun p=>([(5,int p.2.2),(1,.isl 1 es),(0,int op)],[])) (fun p=>l=p.1++p.2.1∧p.2.2=p.1.length∧p.1.all (fK op h)=true) (fun p=>p.2.1.length) ([],l,0) ⟨rfl,rfl,rfl⟩ ?_ ?_
 · exact zI ⟨.refl _,.refl _,.refl _,trivial⟩
 rintro ⟨d,r,i⟩ ⟨g1,gi,ga⟩
 dsimp only at g1 gi ga ⊢
 have L1:=congrArg List.length g1
 rw [List.length_append] at L1
 cases r with
 | nil =>
  simp only [List.length_nil,Nat.add_zero] at L1
  have hc:iLt i (lenA es)=false:=yW e_iLt e_lenA (by omega)
  rw [List.append_nil] at g1
  rw [← g1,hh] at ga
  rw [hR,opsK_good ga]
  have fz:=hc
  refine Cq ?_
  refine Aq ?_
  refine zo ?_
  refine Aq ?_
  exact fV
 | cons k r =>
  simp only [List.length_cons] at L1
  have hc:iLt i (lenA es)=true:=yY e_iLt e_lenA (by omega)
  have hat:=zP e_atA hes g1 gi
  have hat0:=zP e_atA hes (head_at g1) (show (0:Int)=(([]:List Int).length:Int) from rfl)
  rw [← hh] at hat0
  have hi2:iAdd .i64 i 1=((d++[k]).length:Int):=by rw [List.length_append];exact zJ e_iAdd gi (by omega)
  have b0:(0:Int)<lenA es:=by simp only [ee];omega
  have hbad:fK op h k=false→R=9:=fun e=>by rw [hR];exact opsK_bad g1 (by rw [← hh];exact e)
  have hgood:fK op h k=true→(d++[k]).all (fK op h)=true:=fun e=>by rw [List.all_append,ga];simp [e]
  rw [hfd] at hbad hgood
  clear hR hh hfd
  by_cases n1:0≤dm
  · have q1:iLe 0 dm=true:=by simp only [ee];simpa using n1
    by_cases n2:k=dm
    · have q2:iNe k dm=false:=by simp only [ee];simpa using n2
      have n3:¬ op=9:=by rintro rfl;rw [hdm,tN] at n1;simp at n1
      have q3:iEq op 9=false:=by simp only [ee];simpa using n3
      have hgood:=hgood (by simp [n2,n3])
      clear hbad
      have fz:=And.intro hc (And.intro hat (And.intro hat0 (And.intro q1 (And.intro q2 q3))))
      refine Cq ?_
      refine Aq ?_
      refine oPA pd ?_
      refine Cq ?_
      refine zb rfl (by conv=>lhs;cbv) rfl ?_
      refine tgA ?_
      refine tgC ?_
      refine zn rfl ?_
      refine tgA ?_
      refine zn rfl ?_
      refine tgA ?_
      refine zn rfl ?_
      refine tgA ?_
      refine zn rfl ?_
      refine tgC ?_
      refine zn rfl ?_
      refine tgA ?_
      refine zn rfl ?_
      refine tgA ?_
      refine tgC ?_
      refine zn rfl ?_
      refine tgA ?_
      refine zn rfl ?_
      refine tgA ?_
      refine zn rfl ?_
      refine tgA ?_
      refine tgC ?_
      refine zy (.inl rfl) ?_
      refine zy (.inl rfl) ?_
      refine zy (.inl rfl) ?_
      refine zy (.inl rfl) ?_
      refine zy (.inl rfl) ?_
      refine zy (.inl rfl) ?_
      refine zy (.inl rfl) ?_
      refine zy (.inl rfl) ?_
      refine zn rfl ?_
      refine tgA ?_
      refine zW ⟨rfl,by simp [za],?_⟩
      refine Aq ?_
      refine zw (d++[k],r,iAdd .i64 i 1) ⟨by rw [g1];simp,hi2,hgood⟩ (by simp) (eS [] [])
    have q2:iNe k dm=true:=by simp only [ee];simpa using n2
    rw [hbad (by simp [n1,n2])]
    clear hgood
    have fz:=And.intro hc (And.intro hat (And.intro hat0 (And.intro q1 q2)))
    refine Cq ?_
    refine Aq ?_
    refine oPA pd ?_
    refine Cq ?_
    refine zb rfl (by conv=>lhs;cbv) rfl ?_
    refine tgA ?_
    refine tgC ?_
    refine zn rfl ?_
    refine tgA ?_
    refine zn rfl ?_
    refine tgA ?_
    refine zn rfl ?_
    refine tgA ?_
    refine zn rfl ?_
    refine tgC ?_
    refine zn rfl ?_
    refine tgA ?_
    refine zn rfl ?_
    refine tgA ?_
    refine tgC ?_
    refine zy (.inl rfl) ?_
    refine zy (.inl rfl) ?_
    refine zy (.inl rfl) ?_
    refine zy (.inr ⟨_,_,rfl,rfl⟩) ?_
    refine zy (.inr ⟨_,_,rfl,rfl⟩) ?_
    refine zy (.inr ⟨_,_,rfl,rfl⟩) ?_
    refine zy (.inr ⟨_,_,rfl,rfl⟩) ?_
    refine zy (.inr ⟨_,_,rfl,rfl⟩) ?_
    refine zy (.inr ⟨_,_,rfl,rfl⟩) ?_
    refine zy (.inr ⟨_,_,rfl,rfl⟩) ?_
    refine zy (.inr ⟨_,_,rfl,rfl⟩) ?_
    refine zy (.inl rfl) ?_
    refine tgA ?_
    refine zW ⟨rfl,by simp [za],?_⟩
    refine Aq ?_
    refine zl ?_
    refine Aq ?_
    exact fV
  have q1:iLe 0 dm=false:=by simp only [ee];simpa using n1
  by_cases n3:op=9
  · have q3:iEq op 9=true:=by simp only [ee];simpa using n3
    by_cases n2:k=h
    · have q2:iNe k h=false:=by simp only [ee];simpa using n2
      have hgood:=hgood (by simp [n1,n2])
      clear hbad
      have fz:=And.intro hc (And.intro hat (And.intro hat0 (And.intro q1 (And.intro q2 q3))))
      refine Cq ?_
      refine Aq ?_
      refine oPA pd ?_
      refine Cq ?_
      refine zb rfl (by conv=>lhs;cbv) rfl ?_
      refine tgA ?_
      refine tgC ?_
      refine zy (.inl rfl) ?_
      refine zy (.inl rfl) ?_
      refine zy (.inl rfl) ?_
      refine zy (.inl rfl) ?_
      refine zy (.inl rfl) ?_
      refine zy (.inl rfl) ?_
      refine tgA ?_
      refine zn rfl ?_
      refine tgA ?_
      refine zn rfl ?_
      refine tgA ?_
      refine zn rfl ?_
      refine tgA ?_
      refine tgC ?_
      refine zn rfl ?_
      refine tgA ?_
      refine zn rfl ?_
      refine tgA ?_
      refine zn rfl ?_
      refine tgA ?_
      refine zn rfl ?_
      refine tgC ?_
      refine zn rfl ?_
      refine tgA ?_
      refine zn rfl ?_
      refine tgA ?_
      refine zn rfl ?_
      refine tgC ?_
      refine zn rfl ?_
      refine tgA ?_
      refine zn rfl ?_
      refine tgA ?_
      refine zW ⟨rfl,by simp [za],?_⟩
      refine Cq ?_
      refine Aq ?_
      refine zw (d++[k],r,iAdd .i64 i 1) ⟨by rw [g1];simp,hi2,hgood⟩ (by simp) (eS [] [])
    have q2:iNe k h=true:=by simp only [ee];simpa using n2
    rw [hbad (by simp [n2,n3])]
    clear hgood
    have fz:=And.intro hc (And.intro hat (And.intro hat0 (And.intro q1 (And.intro q2 q3))))
    refine Cq ?_
    refine Aq ?_
    refine oPA pd ?_
    refine Cq ?_
    refine zb rfl (by conv=>lhs;cbv) rfl ?_
    refine tgA ?_
    refine tgC ?_
    refine zy (.inl rfl) ?_
    refine zy (.inl rfl) ?_
    refine zy (.inl rfl) ?_
    refine zy (.inl rfl) ?_
    refine zy (.inl rfl) ?_
    refine zy (.inl rfl) ?_
    refine tgA ?_
    refine zn rfl ?_
    refine tgA ?_
    refine zn rfl ?_
    refine tgA ?_
    refine zn rfl ?_
    refine tgA ?_
    refine tgC ?_
    refine zn rfl ?_
    refine tgA ?_
    refine zn rfl ?_
    refine tgA ?_
    refine zn rfl ?_
    refine tgA ?_
    refine zn rfl ?_
    refine tgC ?_
    refine zn rfl ?_
    refine tgA ?_
    refine zn rfl ?_
    refine tgA ?_
    refine zn rfl ?_
    refine tgC ?_
    refine zn rfl ?_
    refine tgA ?_
    refine zn rfl ?_
    refine tgA ?_
    refine zW ⟨rfl,by simp [za],?_⟩
    refine Cq ?_
    refine Aq ?_
    refine zl ?_
    refine Aq ?_
    exact fV
  have q3:iEq op 9=false:=by simp only [ee];simpa using n3
  have hgood:=hgood (by simp [n1,n3])
  clear hbad
  have fz:=And.intro hc (And.intro hat (And.intro hat0 (And.intro q1 q3)))
  refine Cq ?_
  refine Aq ?_
  refine oPA pd ?_
  refine Cq ?_
  refine zb rfl (by conv=>lhs;cbv) rfl ?_
  refine tgA ?_
  refine tgC ?_
  refine zy (.inl rfl) ?_
  refine zy (.inl rfl) ?_
  refine zy (.inl rfl) ?_
  refine zy (.inl rfl) ?_
  refine zy (.inl rfl) ?_
  refine zy (.inl rfl) ?_
  refine tgA ?_
  refine zn rfl ?_
  refine tgA ?_
  refine zn rfl ?_
  refine tgA ?_
  refine zn rfl ?_
  refine tgA ?_
  refine tgC ?_
  refine zy (.inl rfl) ?_
  refine zy (.inl rfl) ?_
  refine zy (.inl rfl) ?_
  refine zy (.inl rfl) ?_
  refine zy (.inl rfl) ?_
  refine zy (.inl rfl) ?_
  refine zy (.inl rfl) ?_
  refine zy (.inl rfl) ?_
  refine zn rfl ?_
  refine tgA ?_
  refine zW ⟨rfl,by simp [za],?_⟩
  refine Aq ?_
  refine zw (d++[k],r,iAdd .i64 i 1) ⟨by rw [g1];simp,hi2,hgood⟩ (by simp) (eS [] [])
end Go.Am
end
