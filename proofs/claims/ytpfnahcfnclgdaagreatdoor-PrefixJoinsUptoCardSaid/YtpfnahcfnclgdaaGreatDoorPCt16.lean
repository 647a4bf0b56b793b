/- Contracts of the program's functions. -/
import Derived.Test.YtpfnahcfnclgdaaGreatDoorProg
import Derived.Test.YtpfnahcfnclgdaaGreatDoorPCt14
import Derived.Test.YtpfnahcfnclgdaaGreatDoorPCt15
import Derived.Test.YtpfnahcfnclgdaaGreatDoorPCt10
noncomputable section
set_option maxHeartbeats 16000000
set_option maxRecDepth 100000
namespace Go.Am
open Go.Proofs
theorem evY_ok (i k v t:Int):(evY i k v t).Ok:=⟨tK,fun c h=>by simp [evY] at h,by simp [evY],by simp [evY],by simp [evY],by simp [evY],by simp [evY]⟩
theorem au_okS {n m:Int} {s:List (List Gd)} {l:List Ed} (hs:∀ x∈s,x=[]) (hsl:s.length≤2) (hl:l.length≤3) (h:∀ x∈l,∃ i k v t,x=evY i k v t):(⟨n,m,s,l⟩:Au).Ok:=by
 refine ⟨by dsimp only;omega,?_,?_,by dsimp only;omega,?_⟩
 · intro x hx;rw [hs x hx];simp
 · intro x hx g hg;rw [hs x hx] at hg;simp at hg
 intro x hx
 obtain ⟨i,k,v,t,rfl⟩:=h x hx
 exact evY_ok i k v t
theorem yA_ok : yA.Ok:=au_okS (by simp) (by simp) (by simp) (by
 intro x hx
 simp only [List.mem_cons,List.not_mem_nil,or_false] at hx
 rcases hx with rfl | rfl<;>exact ⟨_,_,_,_,rfl⟩)
theorem yB_ok : yB.Ok:=au_okS (by simp) (by simp) (by simp) (by
 intro x hx
 simp only [List.mem_cons,List.not_mem_nil,or_false] at hx
 rcases hx with rfl | rfl | rfl<;>exact ⟨_,_,_,_,rfl⟩)
theorem yC_ok : yC.Ok:=au_okS (by simp) (by simp) (by simp) (by
 intro x hx
 simp only [List.mem_cons,List.not_mem_nil,or_false] at hx
 rcases hx with rfl | rfl<;>exact ⟨_,_,_,_,rfl⟩)
theorem xN_ok : xN.Ok:=by
 have hb:∀ b∈xN.brs,b.cond.Sm∧b.queries.length<1000000∧∀ t∈b.queries,t.vars.length<1000000:=by
  intro b hb
  have hb:b∈wC:=hb
  simp only [wC,List.mem_cons,List.not_mem_nil,or_false] at hb
  rcases hb with rfl | rfl | rfl
  · exact ⟨tO,by simp,by simp⟩
  · exact ⟨tK,by simp,by simp⟩
  exact ⟨tK,by simp,by simp⟩
 refine ⟨by simp [xN],?_,by simp [xN,wC],fun b h=>(hb b h).1,fun b h=>(hb b h).2.1,fun b h=>(hb b h).2.2⟩
 intro a ha
 have ha:a∈[yA,yB,yC]:=ha
 simp only [List.mem_cons,List.not_mem_nil,or_false] at ha
 rcases ha with rfl | rfl | rfl
 · exact yA_ok
 · exact yB_ok
 exact yC_ok
theorem law32_calls : (PCall EE 41 [.isl 14 [(eventP 0 0).enc,(eventP 1 1).enc,(yq (eventP 2 2)).enc]] xS.enc∧PCall EE 41 [.isl 14 [(eventP 0 0).enc,(eventP 1 1).enc]] xA.enc∧PCall EE 41 [.isl 14 [(eventP 0 0).enc,xQ.enc]] xB.enc) ∧
 PCall EE 13 [xS.enc] (.tup [.isl 14 [(eventP 0 0).enc,(eventP 1 1).enc],(yq (eventP 2 2)).enc,bool false,int 0]) ∧
 PCall EE 15 [.isl 14 [(eventP 0 0).enc,(eventP 1 1).enc],.isl 14 [(eventP 0 0).enc,(eventP 1 1).enc]] (bool true) ∧
 PCall EE 16 [(yq (eventP 2 2)).enc,(yq (eventP 2 2)).enc] (bool true) ∧
 PCall EE 18 [.isl 14 [xA.enc,xB.enc,xC.enc]] (.tup [xN.enc,int 0]) ∧
 PCall EE 25 [xN.enc] (.tup [int 1,int 0]):=by
 have sP:(yq (eventP 2 2)).Sm:=by
  have h:ezP (yq (eventP 2 2)).nodes:=by rw [ux,wz];exact wG (sY _) (tr _ _ (by omega) (by omega))
  exact sU h (by rw [ux,wz];simp)
 have s0:(eventP 0 0).Sm:=sU (by rw [wz];exact tr _ _ (by omega) (by omega)) (by rw [wz];simp)
 refine ⟨⟨?_,?_,?_⟩,?_,?_,?_,?_,?_⟩
 · have:=P_seq32 [eventP 0 0,eventP 1 1,yq (eventP 2 2)]
   rw [zu] at this;exact this
 · have:=P_seq32 [eventP 0 0,eventP 1 1]
   rw [zu] at this;exact this
 · have:=P_seq32 [eventP 0 0,xQ]
   rw [zu] at this;exact this
 · have:=P_Split xS xS_sm
   rw [if_pos xS_chk,xS_pre,xS_rst,xS_whl,zu] at this;exact this
 · have:=P_SamePatterns [eventP 0 0,eventP 1 1] [eventP 0 0,eventP 1 1] (by
    intro q hq
    simp only [List.mem_cons,List.not_mem_nil,or_false] at hq
    rcases hq with rfl | rfl
    · exact s0
    exact e1_sm) (by simp)
   rw [yD,zu] at this;exact this
 · have:=vr (yq (eventP 2 2)) (yq (eventP 2 2)) sP
   rw [yD] at this;exact this
 · have:=P_BuildS [zA,zB,zC] (by decide) z_bld
   rw [z_all,zu] at this;exact this
 have:=P_Saved xN xN_ok (by simp [wI,xN,wC])
 rw [if_pos xN_chk,xN_saved] at this;exact this
structure AwN (br au:List AV):Prop where
 bl:br.length=3
 al:au.length=3
 kb:(AV.isl 11 br).closed=true
 ka:(AV.isl 4 au).closed=true
 row:∃ x0 x1 x2 v0 v1 v2 w0 w1 w2:List AV,(br.getD 0 .undef=.agg x0∧br.getD 1 .undef=.agg x1∧br.getD 2 .undef=.agg x2) ∧
  (w0=[.agg [int 2,.isl 1 v0,bool false,int 0]]∧w1=[.agg [int 1,.isl 1 v1,bool false,int 1]]∧w2=[.agg [int 0,.isl 1 v2,bool true,int 0]]) ∧
  (∃ (y1 y2 y3 y5 y6 y7 y8 y9:Int) (y4:List AV) (yt:ByteArray),x0=[int y1,int y2,int y3,.isl 8 y4,int y5,int y6,int y7,int y8,int y9,str yt,.isl 4 w0]) ∧
  (∃ (y1 y2 y3 y5 y6 y7 y8 y9:Int) (y4:List AV) (yt:ByteArray),x1=[int y1,int y2,int y3,.isl 8 y4,int y5,int y6,int y7,int y8,int y9,str yt,.isl 4 w1]) ∧
  (∃ (y2 y3 y5 y6 y7 y8 y9:Int) (y4:List AV) (yt:ByteArray),x2=[int 1,int y2,int y3,.isl 8 y4,int y5,int y6,int y7,int y8,int y9,str yt,.isl 4 w2]) ∧
  AV.closedL v0=true∧AV.closedL v1=true∧AV.closedL v2=true
theorem aw_net : AwN (zy Br.enc wC) (zy Au.enc [yA,yB,yC]):=by
 have hb:∀ (i:Nat) (b:Br),wC[i]? = some b→(zy Br.enc wC).getD i .undef=b.enc:=fun i b h=>by rw [zu];simp [List.getD_eq_getElem?_getD,List.getElem?_map,h]
 have hb0:=hb 0 _ rfl
 have hb1:=hb 1 _ rfl
 have hb2:=hb 2 _ rfl
 have ht:∀ t:Tl,zy Tl.enc [t]=[t.enc]:=fun t=>by rw [zu];rfl
 obtain ⟨co0,ec0,cv0,cf0,ck0,xk0,xn0,xt0,he0,-⟩:=Br.form ⟨-1,0,Ex0,[⟨2,[],false,0⟩]⟩
 obtain ⟨co1,ec1,cv1,cf1,ck1,xk1,xn1,xt1,he1,-⟩:=Br.form ⟨0,0,yesE,[⟨1,[0],false,1⟩]⟩
 obtain ⟨co2,ec2,cv2,cf2,ck2,xk2,xn2,xt2,he2,-⟩:=Br.form ⟨1,1,yesE,[⟨0,[0,1],true,0⟩]⟩
 dsimp only at he0 he1 he2
 rw [ht,Tl.enc_eq] at he0 he1 he2
 dsimp only at he0 he1 he2
 rw [he0] at hb0
 rw [he1] at hb1
 rw [he2] at hb2
 refine ⟨by rw [zp];rfl,by rw [zp];rfl,Br.closedI _,Au.closedI _,_,_,_,_,_,_,_,_,_,⟨hb0,hb1,hb2⟩,⟨rfl,rfl,rfl⟩,⟨_,_,_,_,_,_,_,_,_,_,rfl⟩,⟨_,_,_,_,_,_,_,_,_,_,rfl⟩,⟨_,_,_,_,_,_,_,_,_,rfl⟩,?_,?_,?_⟩
 · simpa only [AV.closed] using zQ []
 · simpa only [AV.closed] using zQ [0]
 simpa only [AV.closed] using zQ [0,1]
theorem aw_loop (br au:List AV) (h:AwN br au):zl EE 155 0 (vC [.t 0] (bool true)) (.code (yp 6 T12.1)) [] [(5,.ptr 0 0),(0,bool false)] [.cells [.isl 11 br,.isl 4 au]]:=by
 obtain ⟨hbl,hal,kb,ka,x0,x1,x2,v0,v1,v2,w0,w1,w2,⟨hb0,hb1,hb2⟩,⟨d0,d1,d2⟩,c0,c1,c2,kv0,kv1,kv2⟩:=h
 have c2':∃ (y1 y2 y3 y5 y6 y7 y8 y9:Int) (y4:List AV) (yt:ByteArray),x2=[int y1,int y2,int y3,.isl 8 y4,int y5,int y6,int y7,int y8,int y9,str yt,.isl 4 w2]:=by
  obtain ⟨y2,y3,y5,y6,y7,y8,y9,y4,yt,e⟩:=c2
  exact ⟨1,y2,y3,y5,y6,y7,y8,y9,y4,yt,e⟩
 have tail:=aw_tail br au hbl x0 x1 x2 hb0 hb1 hb2 v0 v1 v2 w0 w1 w2 d0 d1 d2 c0 c1 c2' kv0 kv1 kv2
 have hrow:∀ k:Nat,k<3→∃ (y1 y2 y3 y5 y6 y7 y8 y9:Int) (y4:List AV) (yt:ByteArray) (w:List AV),w.length=1∧br.getD k .undef=.agg [int y1,int y2,int y3,.isl 8 y4,int y5,int y6,int y7,int y8,int y9,str yt,.isl 4 w]:=by
  obtain ⟨y1,y2,y3,y5,y6,y7,y8,y9,y4,yt,e0⟩:=c0
  obtain ⟨z1,z2,z3,z5,z6,z7,z8,z9,z4,zt,e1⟩:=c1
  obtain ⟨u1,u2,u3,u5,u6,u7,u8,u9,u4,ut,e2⟩:=c2'
  intro k hk
  match k,hk with
  | 0,_=>exact ⟨_,_,_,_,_,_,_,_,_,_,w0,by rw [d0];rfl,by rw [hb0,e0]⟩
  | 1,_=>exact ⟨_,_,_,_,_,_,_,_,_,_,w1,by rw [d1];rfl,by rw [hb1,e1]⟩
  | 2,_=>exact ⟨_,_,_,_,_,_,_,_,_,_,w2,by rw [d2];rfl,by rw [hb2,e2]⟩
 clear c0 c1 c2 c2' hb0 hb1 hb2 d0 d1 d2
 refine zo ?_;unhygienic intros
 have n1:iNe 1 1=false:=by simp only [ee];rfl
 refine vX (a:=vV (yp 6 T12.1)) (b:=yp 7 T12.1) ?_
 refine wp [(5,.ptr 0 0),(0,bool false)] [.cells [.isl 11 br,.isl 4 au]] ?_ ?_
 · refine Aq ?_
   refine ze (ι:=Int × Nat) (fun p=>([(8,int p.1),(5,.ptr 0 0),(0,bool false)],[.cells [.isl 11 br,.isl 4 au]])) (fun p=>p.1=p.2∧p.2≤3) (fun p=>3 - p.2) (0,0) ⟨rfl,Nat.zero_le _⟩ ?_ ?_
   · exact yz ⟨.refl _,.refl _,.refl _,trivial⟩
   rintro ⟨i,k⟩ ⟨gi,gk⟩
   dsimp only at gi gk ⊢
   by_cases hk:k<3
   · have hc:iLt i 3=true:=by simp only [ee];simp;omega
     obtain ⟨y1,y2,y3,y5,y6,y7,y8,y9,y4,yt,w,hw,hx⟩:=hrow k hk
     have hx:atA br i=_:=(show atA br i=br.getD k .undef by simp only [ee];rw [gi];simp).trans hx
     have hlq:lenA w=1:=by simp only [ee];omega
     have fz:=hc
     refine Cq ?_
     have fz:=And.intro hc (And.intro hx (And.intro hlq n1))
     refine Cr ?_
     have fz:=And.intro hx (And.intro hlq n1)
     refine Cr ?_
     have hi2:iAdd .i64 i 1=((k+1:Nat):Int):=yh e_iAdd gi (by omega)
     refine zm (((k+1:Nat):Int),k+1) ⟨rfl,hk⟩ (by dsimp only;omega) ?_
     rw [hi2]
     exact yz ⟨.refl _,.refl _,.refl _,trivial⟩
   have hc:iLt i 3=false:=by simp only [ee];simp;omega
   have fz:=hc
   refine Cq ?_
   refine Cr ?_
   refine zk ?_
   refine Aq ?_
   exact ⟨rfl,yz ⟨.refl _,.refl _,trivial⟩⟩
 exact tail
theorem aw_chain (br au:List AV) (h:AwN br au):zl EE 155 0 (vC [.t 0] (bool true)) (.code (yp 5 T12.1)) [] [(7,int 0),(6,int 1),(4,int 0),(5,.ptr 0 0),(0,bool false)] [.cells [.isl 11 br,.isl 4 au]]:=by
 have tail:=aw_loop br au h
 obtain ⟨hbl,hal,kb,ka,x0,x1,x2,v0,v1,v2,w0,w1,w2,⟨hb0,hb1,hb2⟩,⟨d0,d1,d2⟩,c0,c1,c2,kv0,kv1,kv2⟩:=h
 obtain ⟨y2,y3,y5,y6,y7,y8,y9,y4,yt,e⟩:=c2
 rw [e] at hb2
 clear c0 c1 hb0 hb1 d0 d1 d2
 refine zo ?_;unhygienic intros
 have n0:iNe 0 0=false:=by simp only [ee];rfl
 have n1:iNe 1 1=false:=by simp only [ee];rfl
 have n3:iNe 3 3=false:=by simp only [ee];rfl
 have hlb:lenA br=3:=by simp only [ee];omega
 have hla:lenA au=3:=by simp only [ee];omega
 have hr2:atA br 2=_:=(show atA br 2=br.getD 2 .undef by simp only [ee];rfl).trans hb2
 have boo:bOr false false=false:=by simp only [ee];rfl
 refine vX (a:=vV (yp 5 T12.1)) (b:=yp 6 T12.1) ?_
 refine wp [(5,.ptr 0 0),(0,bool false)] [.cells [.isl 11 br,.isl 4 au]] ?_ ?_
 · have fz:=And.intro n0 (And.intro n1 (And.intro n3 (And.intro hlb (And.intro hla hr2))))
   refine Cq ?_
   have fz:=boo
   refine Cr ?_
   exact ⟨rfl,yz ⟨.refl _,.refl _,trivial⟩⟩
 exact tail
theorem aw_saved (br au:List AV) (h:AwN br au) (sv:PCall EE 25 [.agg [.isl 11 br,.isl 4 au]] (.tup [int 1,int 0])):zl EE 155 0 (vC [.t 0] (bool true)) (.code (yp 4 T12.1)) [] [(4,int 0),(5,.ptr 0 0),(0,bool false)] [.cells [.isl 11 br,.isl 4 au]]:=by
 have tail:=aw_chain br au h
 have kn:(AV.agg [.isl 11 br,.isl 4 au]).closed=true:=by rw [AV.closed,AV.closedL,AV.closedL,h.kb,h.ka];rfl
 refine zo ?_;unhygienic intros
 refine vX (a:=vV (yp 4 T12.1)) (b:=yp 5 T12.1) ?_
 refine wp [(7,int 0),(6,int 1),(4,int 0),(5,.ptr 0 0),(0,bool false)] [.cells [.isl 11 br,.isl 4 au]] ?_ ?_
 · refine Aq ?_
   refine zh (args:=[.agg [.isl 11 br,.isl 4 au]]) rfl rfl rfl sv (zg kn) ?_
   refine Aq ?_
   exact ⟨rfl,yz ⟨.refl _,.refl _,.refl _,.refl _,.refl _,trivial⟩⟩
 exact tail
theorem aw_build : zl EE 155 0 (vC [.t 0] (bool true)) (.code (yp 3 T12.1)) [] [(0,bool false)] []:=by
 have j1:=vu 0 0
 have j2:=vu 1 1
 have j5:PCall EE 43 [(eventP 1 1).enc] xQ.enc:=P_plus32 _
 have j6:PCall EE 43 [(eventP 0 0).enc] xC.enc:=P_plus32 _
 obtain ⟨⟨j7,j8,j9⟩,jA,jB,jC,jD,jE⟩:=law32_calls
 have hN:xN.enc=.agg [.isl 11 (zy Br.enc wC),.isl 4 (zy Au.enc [yA,yB,yC])]:=rfl
 rw [hN] at jD jE
 have tail:=aw_saved _ _ aw_net jE
 generalize zy Br.enc wC=br at *
 generalize zy Au.enc [yA,yB,yC]=au at *
 have ka:=Pat.closed (eventP 0 0)
 have kb:=Pat.closed (eventP 1 1)
 have kA:=Pat.closed xA
 have kB:=Pat.closed xB
 have kC:=Pat.closed xC
 have kQ:=Pat.closed xQ
 clear j7 jA jB jC jE hN
 generalize eventP 0 0=a at *
 generalize eventP 1 1=b at *
 generalize xA=p at *
 generalize xB=q at *
 generalize xC=r at *
 generalize xQ=u at *
 obtain ⟨aO,aA,aT,aV,aS,aN,aCo,aCa,aCv,aCf,aCk,aXk,aXn,aXt,hxa⟩:=Pat.form a
 obtain ⟨bO,bA,bT,bV,bS,bN,bCo,bCa,bCv,bCf,bCk,bXk,bXn,bXt,hxb⟩:=Pat.form b
 obtain ⟨pO,pA,pT,pV,pS,pN,pCo,pCa,pCv,pCf,pCk,pXk,pXn,pXt,hxp⟩:=Pat.form p
 obtain ⟨qO,qA,qT,qV,qS,qN,qCo,qCa,qCv,qCf,qCk,qXk,qXn,qXt,hxq⟩:=Pat.form q
 obtain ⟨rO,rA,rT,rV,rS,rN,rCo,rCa,rCv,rCf,rCk,rXk,rXn,rXt,hxr⟩:=Pat.form r
 obtain ⟨uO,uA,uT,uV,uS,uN,uCo,uCa,uCv,uCf,uCk,uXk,uXn,uXt,hxu⟩:=Pat.form u
 rw [hxa] at j1 j6 j8 j9 ka
 rw [hxb] at j2 j5 j8 kb
 rw [hxp] at j8 jD kA
 rw [hxq] at j9 jD kB
 rw [hxr] at j6 jD kC
 rw [hxu] at j5 j9 kQ
 clear hxa hxb hxp hxq hxr hxu
 have kab:AV.closedL [.agg [int aO,.isl 14 aA,int aT,int aV,int aS,int aN,int aCo,.isl 8 aCa,int aCv,int aCf,int aCk,int aXk,int aXn,str aXt],.agg [int bO,.isl 14 bA,int bT,int bV,int bS,int bN,int bCo,.isl 8 bCa,int bCv,int bCf,int bCk,int bXk,int bXn,str bXt]]=true:=by rw [AV.closedL,ka,AV.closedL,kb];rfl
 have kau:AV.closedL [.agg [int aO,.isl 14 aA,int aT,int aV,int aS,int aN,int aCo,.isl 8 aCa,int aCv,int aCf,int aCk,int aXk,int aXn,str aXt],.agg [int uO,.isl 14 uA,int uT,int uV,int uS,int uN,int uCo,.isl 8 uCa,int uCv,int uCf,int uCk,int uXk,int uXn,str uXt]]=true:=by rw [AV.closedL,ka,AV.closedL,kQ];rfl
 have kpqr:AV.closedL [.agg [int pO,.isl 14 pA,int pT,int pV,int pS,int pN,int pCo,.isl 8 pCa,int pCv,int pCf,int pCk,int pXk,int pXn,str pXt],.agg [int qO,.isl 14 qA,int qT,int qV,int qS,int qN,int qCo,.isl 8 qCa,int qCv,int qCf,int qCk,int qXk,int qXn,str qXt],.agg [int rO,.isl 14 rA,int rT,int rV,int rS,int rN,int rCo,.isl 8 rCa,int rCv,int rCf,int rCk,int rXk,int rXn,str rXt]]=true:=by rw [AV.closedL,kA,AV.closedL,kB,AV.closedL,kC];rfl
 refine zo ?_;unhygienic intros
 refine vX (a:=vV (yp 3 T12.1)) (b:=yp 4 T12.1) ?_
 refine wp [(4,int 0),(5,.ptr 0 0),(0,bool false)] [.cells [.isl 11 br,.isl 4 au]] ?_ ?_
 · refine Aq ?_
   refine oPA j1 ?_
   refine Aq ?_
   refine oPA j2 ?_
   refine Aq ?_
   refine wW (wX (F':=[(47,.isl 14 [.agg [int aO,.isl 14 aA,int aT,int aV,int aS,int aN,int aCo,.isl 8 aCa,int aCv,int aCf,int aCk,int aXk,int aXn,str aXt],.agg [int bO,.isl 14 bA,int bT,int bV,int bS,int bN,int bCo,.isl 8 bCa,int bCv,int bCf,int bCk,int bXk,int bXn,str bXt]]),(0,bool false)]) 0 [.isl 14 [.agg [int aO,.isl 14 aA,int aT,int aV,int aS,int aN,int aCo,.isl 8 aCa,int aCv,int aCf,int aCk,int aXk,int aXn,str aXt],.agg [int bO,.isl 14 bA,int bT,int bV,int bS,int bN,int bCo,.isl 8 bCa,int bCv,int bCf,int bCk,int bXk,int bXn,str bXt]]] rfl trivial ⟨⟨_,rfl,(zw _ kab).symm⟩,trivial⟩ ⟨.of (xf rfl rfl),.refl _,trivial⟩ (by simp)) ?_
   refine zh (args:=[.isl 14 [.agg [int aO,.isl 14 aA,int aT,int aV,int aS,int aN,int aCo,.isl 8 aCa,int aCv,int aCf,int aCk,int aXk,int aXn,str aXt],.agg [int bO,.isl 14 bA,int bT,int bV,int bS,int bN,int bCo,.isl 8 bCa,int bCv,int bCf,int bCk,int bXk,int bXn,str bXt]]]) rfl rfl rfl j8 (zg (by simpa only [AV.closed] using kab)) ?_
   refine Aq ?_
   refine oPA j1 ?_
   refine Aq ?_
   refine oPA j2 ?_
   refine Aq ?_
   refine zh (args:=[.agg [int bO,.isl 14 bA,int bT,int bV,int bS,int bN,int bCo,.isl 8 bCa,int bCv,int bCf,int bCk,int bXk,int bXn,str bXt]]) rfl rfl rfl j5 (zg kb) ?_
   refine Aq ?_
   refine wW (wX (F':=[(52,.isl 14 [.agg [int aO,.isl 14 aA,int aT,int aV,int aS,int aN,int aCo,.isl 8 aCa,int aCv,int aCf,int aCk,int aXk,int aXn,str aXt],.agg [int uO,.isl 14 uA,int uT,int uV,int uS,int uN,int uCo,.isl 8 uCa,int uCv,int uCf,int uCk,int uXk,int uXn,str uXt]]),(48,.agg [int pO,.isl 14 pA,int pT,int pV,int pS,int pN,int pCo,.isl 8 pCa,int pCv,int pCf,int pCk,int pXk,int pXn,str pXt]),(0,bool false)]) 0 [.isl 14 [.agg [int aO,.isl 14 aA,int aT,int aV,int aS,int aN,int aCo,.isl 8 aCa,int aCv,int aCf,int aCk,int aXk,int aXn,str aXt],.agg [int uO,.isl 14 uA,int uT,int uV,int uS,int uN,int uCo,.isl 8 uCa,int uCv,int uCf,int uCk,int uXk,int uXn,str uXt]]] rfl trivial ⟨⟨_,rfl,(zw _ kau).symm⟩,trivial⟩ ⟨.of (xf rfl rfl),.cl kA,.refl _,trivial⟩ (by simp)) ?_
   refine zh (args:=[.isl 14 [.agg [int aO,.isl 14 aA,int aT,int aV,int aS,int aN,int aCo,.isl 8 aCa,int aCv,int aCf,int aCk,int aXk,int aXn,str aXt],.agg [int uO,.isl 14 uA,int uT,int uV,int uS,int uN,int uCo,.isl 8 uCa,int uCv,int uCf,int uCk,int uXk,int uXn,str uXt]]]) rfl rfl rfl j9 (zg (by simpa only [AV.closed] using kau)) ?_
   refine Aq ?_
   refine oPA j1 ?_
   refine Aq ?_
   refine zh (args:=[.agg [int aO,.isl 14 aA,int aT,int aV,int aS,int aN,int aCo,.isl 8 aCa,int aCv,int aCf,int aCk,int aXk,int aXn,str aXt]]) rfl rfl rfl j6 (zg ka) ?_
   refine Aq ?_
   refine wW (wX (F':=[(56,.isl 14 [.agg [int pO,.isl 14 pA,int pT,int pV,int pS,int pN,int pCo,.isl 8 pCa,int pCv,int pCf,int pCk,int pXk,int pXn,str pXt],.agg [int qO,.isl 14 qA,int qT,int qV,int qS,int qN,int qCo,.isl 8 qCa,int qCv,int qCf,int qCk,int qXk,int qXn,str qXt],.agg [int rO,.isl 14 rA,int rT,int rV,int rS,int rN,int rCo,.isl 8 rCa,int rCv,int rCf,int rCk,int rXk,int rXn,str rXt]]),(0,bool false)]) 0 [.isl 14 [.agg [int pO,.isl 14 pA,int pT,int pV,int pS,int pN,int pCo,.isl 8 pCa,int pCv,int pCf,int pCk,int pXk,int pXn,str pXt],.agg [int qO,.isl 14 qA,int qT,int qV,int qS,int qN,int qCo,.isl 8 qCa,int qCv,int qCf,int qCk,int qXk,int qXn,str qXt],.agg [int rO,.isl 14 rA,int rT,int rV,int rS,int rN,int rCo,.isl 8 rCa,int rCv,int rCf,int rCk,int rXk,int rXn,str rXt]]] rfl trivial ⟨⟨_,rfl,(zw _ kpqr).symm⟩,trivial⟩ ⟨.of (xf rfl rfl),.refl _,trivial⟩ (by simp)) ?_
   refine zh (args:=[.isl 14 [.agg [int pO,.isl 14 pA,int pT,int pV,int pS,int pN,int pCo,.isl 8 pCa,int pCv,int pCf,int pCk,int pXk,int pXn,str pXt],.agg [int qO,.isl 14 qA,int qT,int qV,int qS,int qN,int qCo,.isl 8 qCa,int qCv,int qCf,int qCk,int qXk,int qXn,str qXt],.agg [int rO,.isl 14 rA,int rT,int rV,int rS,int rN,int rCo,.isl 8 rCa,int rCv,int rCf,int rCk,int rXk,int rXn,str rXt]]]) rfl rfl rfl jD (zg (by simpa only [AV.closed] using kpqr)) ?_
   refine Aq ?_
   exact ⟨rfl,yz ⟨.refl _,.refl _,.refl _,trivial⟩⟩
 exact tail
theorem aw_draw : zl EE 155 0 (vC [.t 0] (bool true)) (.code (yp 2 T12.1)) [] [(4,int 0),(3,bool false),(2,.ptr 0 0),(1,.isl 14 [(eventP 0 0).enc,(eventP 1 1).enc]),(0,bool false)] [.cells (yq (eventP 2 2)).enc.cells]:=by
 have j1:=vu 0 0
 have j2:=vu 1 1
 have j3:=vu 2 2
 have j4:PCall EE 43 [(eventP 2 2).enc] (yq (eventP 2 2)).enc:=P_plus32 _
 obtain ⟨⟨j7,j8,j9⟩,jA,jB,jC,jD,jE⟩:=law32_calls
 have tail:=aw_build
 have ka:=Pat.closed (eventP 0 0)
 have kb:=Pat.closed (eventP 1 1)
 have kc:=Pat.closed (eventP 2 2)
 have kd:=Pat.closed (yq (eventP 2 2))
 clear j7 j8 j9 jA jD jE
 generalize eventP 0 0=a at *
 generalize eventP 1 1=b at *
 generalize yq (eventP 2 2)=d at *
 generalize eventP 2 2=c at *
 obtain ⟨aO,aA,aT,aV,aS,aN,aCo,aCa,aCv,aCf,aCk,aXk,aXn,aXt,hxa⟩:=Pat.form a
 obtain ⟨bO,bA,bT,bV,bS,bN,bCo,bCa,bCv,bCf,bCk,bXk,bXn,bXt,hxb⟩:=Pat.form b
 obtain ⟨cO,cA,cT,cV,cS,cN,cCo,cCa,cCv,cCf,cCk,cXk,cXn,cXt,hxc⟩:=Pat.form c
 obtain ⟨dO,dA,dT,dV,dS,dN,dCo,dCa,dCv,dCf,dCk,dXk,dXn,dXt,hxd⟩:=Pat.form d
 rw [hxa] at j1 jB ka ⊢
 rw [hxb] at j2 jB kb ⊢
 rw [hxc] at j3 j4 kc
 rw [hxd] at j4 jC kd ⊢
 clear hxa hxb hxc hxd
 have kab:AV.closedL [.agg [int aO,.isl 14 aA,int aT,int aV,int aS,int aN,int aCo,.isl 8 aCa,int aCv,int aCf,int aCk,int aXk,int aXn,str aXt],.agg [int bO,.isl 14 bA,int bT,int bV,int bS,int bN,int bCo,.isl 8 bCa,int bCv,int bCf,int bCk,int bXk,int bXn,str bXt]]=true:=by rw [AV.closedL,ka,AV.closedL,kb];rfl
 refine zo ?_;unhygienic intros
 have n0:iNe 0 0=false:=by simp only [ee];rfl
 have nt:bNot true=false:=by simp only [ee];rfl
 refine vX (a:=vV (yp 2 T12.1)) (b:=yp 3 T12.1) ?_
 refine wp [(0,bool false)] [] ?_ ?_
 · refine goA 0 ?_
   refine zX rfl (by conv=>lhs;cbv) rfl ?_
   have fz:=n0
   refine tgC ?_
   refine zn rfl ?_
   refine tgA ?_
   refine zn rfl ?_
   refine tgA ?_
   refine oPT j1 ?_
   refine oPT j2 ?_
   refine tr_bslf (es:=[.agg [int aO,.isl 14 aA,int aT,int aV,int aS,int aN,int aCo,.isl 8 aCa,int aCv,int aCf,int aCk,int aXk,int aXn,str aXt],.agg [int bO,.isl 14 bA,int bT,int bV,int bS,int bN,int bCo,.isl 8 bCa,int bCv,int bCf,int bCk,int bXk,int bXn,str bXt]]) rfl rfl rfl rfl ?_
   refine xL (args:=[.isl 14 [.agg [int aO,.isl 14 aA,int aT,int aV,int aS,int aN,int aCo,.isl 8 aCa,int aCv,int aCf,int aCk,int aXk,int aXn,str aXt],.agg [int bO,.isl 14 bA,int bT,int bV,int bS,int bN,int bCo,.isl 8 bCa,int bCv,int bCf,int bCk,int bXk,int bXn,str bXt]],.isl 14 [.agg [int aO,.isl 14 aA,int aT,int aV,int aS,int aN,int aCo,.isl 8 aCa,int aCv,int aCf,int aCk,int aXk,int aXn,str aXt],.agg [int bO,.isl 14 bA,int bT,int bV,int bS,int bN,int bCo,.isl 8 bCa,int bCv,int bCf,int bCk,int bXk,int bXn,str bXt]]]) rfl rfl rfl jB (by rw [AV.closedL,AV.closed,kab,AV.closedL,AV.closed,kab];rfl) ?_
   refine zn rfl ?_
   have fz:=nt
   refine tgC ?_
   refine zn rfl ?_
   refine tgA ?_
   refine oPT j3 ?_
   refine xL (args:=[.agg [int cO,.isl 14 cA,int cT,int cV,int cS,int cN,int cCo,.isl 8 cCa,int cCv,int cCf,int cCk,int cXk,int cXn,str cXt]]) rfl rfl rfl j4 (zg kc) ?_
   refine xL (args:=[.agg [int dO,.isl 14 dA,int dT,int dV,int dS,int dN,int dCo,.isl 8 dCa,int dCv,int dCf,int dCk,int dXk,int dXn,str dXt],.agg [int dO,.isl 14 dA,int dT,int dV,int dS,int dN,int dCo,.isl 8 dCa,int dCv,int dCf,int dCk,int dXk,int dXn,str dXt]]) rfl rfl rfl jC (by rw [AV.closedL,kd,AV.closedL,kd];rfl) ?_
   refine zn rfl ?_
   refine tgC ?_
   refine zK ⟨rfl,?_,?_⟩
   · simp only [zJ,zd,List.cons_append,List.nil_append,List.append_nil];and_intros<;>first | trivial | (intro hp;first | rfl | exact absurd (show false=true from hp) Bool.false_ne_true)
   refine goB hX 1 (by conv=>lhs;cbv;try simp only [];cbv;try simp only [];cbv;try simp only [];cbv;try simp only [];cbv) ?_
   exact ⟨rfl,wX 0 [.gone] rfl trivial ⟨trivial,trivial⟩ ⟨.refl _,trivial⟩ (by simp)⟩
 exact tail
theorem P_awake32 : PCall EE 12 [] (bool true):=by
 have j1:=vu 0 0
 have j2:=vu 1 1
 have j3:=vu 2 2
 have j4:PCall EE 43 [(eventP 2 2).enc] (yq (eventP 2 2)).enc:=P_plus32 _
 obtain ⟨⟨j7,j8,j9⟩,jA,jB,jC,jD,jE⟩:=law32_calls
 have tail:=aw_draw
 have ka:=Pat.closed (eventP 0 0)
 have kb:=Pat.closed (eventP 1 1)
 have kc:=Pat.closed (eventP 2 2)
 have kd:=Pat.closed (yq (eventP 2 2))
 have kS:=Pat.closed xS
 clear j8 j9 jB jC jD jE
 generalize eventP 0 0=a at *
 generalize eventP 1 1=b at *
 generalize yq (eventP 2 2)=d at *
 generalize eventP 2 2=c at *
 generalize xS.enc=s at *
 obtain ⟨aO,aA,aT,aV,aS,aN,aCo,aCa,aCv,aCf,aCk,aXk,aXn,aXt,hxa⟩:=Pat.form a
 obtain ⟨bO,bA,bT,bV,bS,bN,bCo,bCa,bCv,bCf,bCk,bXk,bXn,bXt,hxb⟩:=Pat.form b
 obtain ⟨cO,cA,cT,cV,cS,cN,cCo,cCa,cCv,cCf,cCk,cXk,cXn,cXt,hxc⟩:=Pat.form c
 obtain ⟨dO,dA,dT,dV,dS,dN,dCo,dCa,dCv,dCf,dCk,dXk,dXn,dXt,hxd⟩:=Pat.form d
 rw [hxa] at j1 j7 jA ka tail
 rw [hxb] at j2 j7 jA kb tail
 rw [hxc] at j3 j4 kc
 rw [hxd] at j4 j7 jA kd tail
 clear hxa hxb hxc hxd
 have kabd:AV.closedL [.agg [int aO,.isl 14 aA,int aT,int aV,int aS,int aN,int aCo,.isl 8 aCa,int aCv,int aCf,int aCk,int aXk,int aXn,str aXt],.agg [int bO,.isl 14 bA,int bT,int bV,int bS,int bN,int bCo,.isl 8 bCa,int bCv,int bCf,int bCk,int bXk,int bXn,str bXt],.agg [int dO,.isl 14 dA,int dT,int dV,int dS,int dN,int dCo,.isl 8 dCa,int dCv,int dCf,int dCk,int dXk,int dXn,str dXt]]=true:=by rw [AV.closedL,ka,AV.closedL,kb,AV.closedL,kd];rfl
 refine zo ?_;unhygienic intros
 refine fB T12 [.t 0] ?_
 refine vX (a:=vV (yp 0 T12.1)) (b:=yp 1 T12.1) ?_
 refine wp [(0,bool false)] [] ?_ ?_
 · refine Aq ?_
   exact ⟨rfl,Ent.refl _ _ _ _ _⟩
 show zl EE 155 0 (vC [.t 0] (bool true)) (.code (yp 1 T12.1)) [] _ _
 refine vX (a:=vV (yp 1 T12.1)) (b:=yp 2 T12.1) ?_
 refine wp [(4,int 0),(3,bool false),(2,.ptr 0 0),(1,.isl 14 [.agg [int aO,.isl 14 aA,int aT,int aV,int aS,int aN,int aCo,.isl 8 aCa,int aCv,int aCf,int aCk,int aXk,int aXn,str aXt],.agg [int bO,.isl 14 bA,int bT,int bV,int bS,int bN,int bCo,.isl 8 bCa,int bCv,int bCf,int bCk,int bXk,int bXn,str bXt]]),(0,bool false)] [.cells [int dO,.isl 14 dA,int dT,int dV,int dS,int dN,int dCo,.isl 8 dCa,int dCv,int dCf,int dCk,int dXk,int dXn,str dXt]] ?_ ?_
 · refine Aq ?_
   refine oPA j1 ?_
   refine Aq ?_
   refine oPA j2 ?_
   refine Aq ?_
   refine oPA j3 ?_
   refine Aq ?_
   refine zh (args:=[.agg [int cO,.isl 14 cA,int cT,int cV,int cS,int cN,int cCo,.isl 8 cCa,int cCv,int cCf,int cCk,int cXk,int cXn,str cXt]]) rfl rfl rfl j4 (zg kc) ?_
   refine Aq ?_
   refine wW (wX (F':=[(17,.isl 14 [.agg [int aO,.isl 14 aA,int aT,int aV,int aS,int aN,int aCo,.isl 8 aCa,int aCv,int aCf,int aCk,int aXk,int aXn,str aXt],.agg [int bO,.isl 14 bA,int bT,int bV,int bS,int bN,int bCo,.isl 8 bCa,int bCv,int bCf,int bCk,int bXk,int bXn,str bXt],.agg [int dO,.isl 14 dA,int dT,int dV,int dS,int dN,int dCo,.isl 8 dCa,int dCv,int dCf,int dCk,int dXk,int dXn,str dXt]]),(0,bool false)]) 0 [.isl 14 [.agg [int aO,.isl 14 aA,int aT,int aV,int aS,int aN,int aCo,.isl 8 aCa,int aCv,int aCf,int aCk,int aXk,int aXn,str aXt],.agg [int bO,.isl 14 bA,int bT,int bV,int bS,int bN,int bCo,.isl 8 bCa,int bCv,int bCf,int bCk,int bXk,int bXn,str bXt],.agg [int dO,.isl 14 dA,int dT,int dV,int dS,int dN,int dCo,.isl 8 dCa,int dCv,int dCf,int dCk,int dXk,int dXn,str dXt]]] rfl trivial ⟨⟨_,rfl,(zw _ kabd).symm⟩,trivial⟩ ⟨.of (xf rfl rfl),.refl _,trivial⟩ (by simp)) ?_
   refine zh (args:=[.isl 14 [.agg [int aO,.isl 14 aA,int aT,int aV,int aS,int aN,int aCo,.isl 8 aCa,int aCv,int aCf,int aCk,int aXk,int aXn,str aXt],.agg [int bO,.isl 14 bA,int bT,int bV,int bS,int bN,int bCo,.isl 8 bCa,int bCv,int bCf,int bCk,int bXk,int bXn,str bXt],.agg [int dO,.isl 14 dA,int dT,int dV,int dS,int dN,int dCo,.isl 8 dCa,int dCv,int dCf,int dCk,int dXk,int dXn,str dXt]]]) rfl rfl rfl j7 (zg (by simpa only [AV.closed] using kabd)) ?_
   refine Aq ?_
   refine zh (args:=[s]) rfl rfl rfl jA (zg kS) ?_
   refine Aq ?_
   exact ⟨rfl,yz ⟨.refl _,.refl _,.refl _,.refl _,.refl _,trivial⟩⟩
 exact tail
theorem P_refDivide0 (p:Pat) (h:p.op≠1):PCall EE 46 [p.enc] (.tup [.isl 14 (zy Pat.enc p.pre),p.rst.enc,bool p.whl]):=by
 have hcl:=Pat.closed p
 have hp0:Pat0.enc=_:=Pat0.enc_eq
 have kp0:=Pat.closed Pat0
 have hE0:zy Pat.enc []=[]:=by rw [zu];rfl
 have hE1:zy Pat.enc [p]=[p.enc]:=by rw [zu];rfl
 by_cases h0:p.op=0
 · have e1:p.pre=[p]:=by rw [Pat.pre,if_pos h0]
   have e2:p.rst=Pat0:=by rw [Pat.rst,if_pos h0]
   have e3:p.whl=true:=by rw [Pat.whl,if_pos h0]
   rw [e1,e2,e3,hE1,hp0]
   obtain ⟨pO,pA,pT,pV,pS,pN,pCo,pCa,pCv,pCf,pCk,pXk,pXn,pXt,hx,hxc,hpO,hpA,hpT,hpV,hpS,hpN⟩:=Pat.form2 p
   rw [hx] at hcl ⊢
   have kcl:AV.closedL [int pO,.isl 14 pA,int pT,int pV,int pS,int pN,int pCo,.isl 8 pCa,int pCv,int pCf,int pCk,int pXk,int pXn,str pXt]=true:=by simpa only [AV.closed] using hcl
   refine zo ?_;unhygienic intros
   have n0:iEq pO 0=true:=by simp only [ee];simp [hpO,h0]
   refine fB T46 [.t 2,.cell 3 14 true,.t 4] ?_
   have fz:=n0
   refine Cq ?_
   refine goC 60 ?_
   refine zP rfl rfl ?_
   refine ⟨[.gone,.gone,.isl 14 [.agg [int pO,.isl 14 pA,int pT,int pV,int pS,int pN,int pCo,.isl 8 pCa,int pCv,int pCf,int pCk,int pXk,int pXn,str pXt]]],⟨trivial,trivial,⟨_,rfl,?_⟩,trivial⟩,?_⟩
   · rw [zw _ (zg hcl)]
   exact .tup' ⟨.refl _,.agg' ⟨.refl _,.nilI _,.refl _,.refl _,.refl _,.refl _,.refl _,.nilI _,.refl _,.refl _,.refl _,.refl _,.refl _,.refl _,trivial⟩,.refl _,trivial⟩
 have e1:p.pre=[]:=by rw [Pat.pre,if_neg h0,if_pos h]
 have e2:p.rst=p:=by rw [Pat.rst,if_neg h0,if_pos h]
 have e3:p.whl=false:=by rw [Pat.whl,if_neg h0,if_pos h]
 rw [e1,e2,e3,hE0]
 obtain ⟨pO,pA,pT,pV,pS,pN,pCo,pCa,pCv,pCf,pCk,pXk,pXn,pXt,hx,hxc,hpO,hpA,hpT,hpV,hpS,hpN⟩:=Pat.form2 p
 rw [hx] at hcl ⊢
 have kcl:AV.closedL [int pO,.isl 14 pA,int pT,int pV,int pS,int pN,int pCo,.isl 8 pCa,int pCv,int pCf,int pCk,int pXk,int pXn,str pXt]=true:=by simpa only [AV.closed] using hcl
 refine zo ?_;unhygienic intros
 have n0:iEq pO 0=false:=by simp only [ee];simp [hpO,h0]
 have n1:iNe pO 1=true:=by simp only [ee];simp [hpO,h]
 refine fB T46 [.t 2,.cell 3 14 true,.t 4] ?_
 have fz:=n0
 refine Cq ?_
 have fz:=And.intro n0 n1
 refine Cr ?_
 refine Cr ?_
 refine zX rfl (by conv=>lhs;cbv) rfl ?_
 refine tgA ?_
 refine zK ⟨rfl,?_,?_⟩
 · simp only [zJ,zd,List.append_nil];and_intros<;>first | trivial | (intro hp;first | rfl | exact absurd (show false=true from hp) Bool.false_ne_true)
 refine Aq ?_
 exact fE [.gone,.gone]
theorem nEv_in : ∀ (l:List Pat) (k:Nat) (q:Pat),k<nEv l→l[k]? = some q→q.op=0
 | [],k,q,h,hq=>by simp at hq
 | x :: r,k,q,h,hq=>by
  rw [nEv] at h
  cases hx:uE x with
  | false=>rw [hx] at h;simp at h
  | true =>
   rw [hx,if_pos rfl] at h
   cases k with
   | zero =>
    simp only [List.getElem?_cons_zero,Option.some.injEq] at hq
    rw [← hq];simpa [uE] using hx
   | succ k=>exact nEv_in r k q (by omega) (by simpa using hq)
theorem P_refDivide2 (p:Pat) (h:p.op=1) (hl:p.args.length<900000) (h2:2≤p.args.length):PCall EE 46 [p.enc] (.tup [.isl 14 (zy Pat.enc p.pre),p.rst.enc,bool p.whl]):=by
 have hcl:=Pat.closed p
 have hle:=t7 p.args
 have h0:p.op≠0:=by omega
 obtain ⟨e1,_,e3,e2⟩:=sq h
 rw [e1,e2,e3]
 have hE0:zy Pat.enc []=[]:=by rw [zu];rfl
 have hp0:Pat0.enc=_:=Pat0.enc_eq
 have kT:=fun k=>Pat.closedL' (p.args.take k)
 have kD:=fun k=>Pat.closedL' (p.args.drop k)
 have lT:=fun k=>zp Pat.enc (p.args.take k)
 have lD:=fun k=>zp Pat.enc (p.args.drop k)
 have hel:=fun (k:Nat) (z:Pat) (hz:p.args[k]? = some z)=>show (zy Pat.enc p.args).getD k .undef=z.enc by rw [zu];simp [List.getD_eq_getElem?_getD,List.getElem?_map,hz]
 have hcutT:=fun k=>show (zy Pat.enc p.args).take k=zy Pat.enc (p.args.take k) by rw [zu,zu,List.map_take]
 have hcutD:=fun k=>show (zy Pat.enc p.args).drop k=zy Pat.enc (p.args.drop k) by rw [zu,zu,List.map_drop]
 have hin:=nEv_in p.args
 have hat:=nEv_at p.args
 have kI:=Pat.closedI p.args
 obtain ⟨pO,pA,pT,pV,pS,pN,pCo,pCa,pCv,pCf,pCk,pXk,pXn,pXt,hx,hxc,hpO,hpA,hpT,hpV,hpS,hpN⟩:=Pat.form2 p
 generalize hpa:p.args=pa at *
 rw [← hpA] at kI
 simp only [← hpA] at hcutT hcutD hel
 have hpl:pA.length=pa.length:=by rw [hpA,zp]
 have k0:pO=1:=by rw [hpO,h]
 rw [hx] at hcl ⊢
 have kcl:AV.closedL [int pO,.isl 14 pA,int pT,int pV,int pS,int pN,int pCo,.isl 8 pCa,int pCv,int pCf,int pCk,int pXk,int pXn,str pXt]=true:=by simpa only [AV.closed] using hcl
 generalize hm:nEv pa=m at *
 refine zo ?_;unhygienic intros
 have n0:iEq pO 0=false:=by simp only [ee];simp [k0]
 have n1:iNe pO 1=false:=by simp only [ee];simp [k0]
 refine fB T46 [.t 2,.cell 3 14 true,.t 4] ?_
 have fz:=n0
 refine Cq ?_
 have fz:=And.intro n0 n1
 refine Cr ?_
 refine Cr ?_
 refine ze (ι:=Int × Nat) (fun p=>([(5,int p.1),(4,bool false),(3,.ptr 1 0),(2,.val (.slice none 0 0)),(1,.ptr 0 0)],[.cells [int pO,.isl 14 pA,int pT,int pV,int pS,int pN,int pCo,.isl 8 pCa,int pCv,int pCf,int pCk,int pXk,int pXn,str pXt],.cells [int 0,.val (.slice none 0 0),int 0,int 0,int 0,int 0,int 0,.val (.slice none 0 0),int 0,int 0,int 0,int 0,int 0,str ⟨#[]⟩]])) (fun p=>p.1=p.2∧p.2≤m) (fun p=>m - p.2) (0,0) ⟨rfl,Nat.zero_le _⟩ ?_ ?_
 · exact yz ⟨.refl _,.refl _,.refl _,.refl _,.refl _,trivial⟩
 rintro ⟨i,k⟩ ⟨gi,gk⟩
 dsimp only at gi gk ⊢
 have nf:∀ b,bAnd false b=false:=by intro b;simp only [ee];rfl
 by_cases hk:k=pa.length
 · have hkm:m=pa.length:=by omega
   have hc:iLt i (lenA pA)=false:=xR e_iLt e_lenA (by omega)
   rw [if_pos hkm,hkm,List.take_length,decide_eq_true rfl,hp0,← hpA]
   have hw:iSub .i64 (lenA pA) i=0:=by simp only [ee];simp [IntKind.wrap_i64];omega
   have n2:iEq 0 0=true:=by simp only [ee];rfl
   have hau:atA pA i=.undef:=by simp only [ee];rw [gi,Int.toNat_natCast,List.getD_eq_getElem?_getD,List.getElem?_eq_none (by omega)];rfl
   have fz:=And.intro hc hau
   refine Cq ?_
   refine yw rfl rfl rfl rfl ?_
   refine yw rfl rfl rfl rfl ?_
   refine yw rfl rfl rfl rfl ?_
   refine yw rfl rfl rfl rfl ?_
   refine yw rfl rfl rfl rfl ?_
   refine yw rfl rfl rfl rfl ?_
   refine yw rfl rfl rfl rfl ?_
   refine Aq ?_
   refine zk ?_
   have fz:=hw
   refine Cq ?_
   have fz:=And.intro hw n2
   refine goC 9 ?_
   refine zP rfl rfl ?_
   exact ⟨[.gone,.gone],⟨trivial,trivial,trivial⟩,.tup' ⟨.cl kI,.agg' ⟨.refl _,.nilI _,.refl _,.refl _,.refl _,.refl _,.refl _,.nilI _,.refl _,.refl _,.refl _,.refl _,.refl _,.refl _,trivial⟩,.refl _,trivial⟩⟩
 obtain ⟨z,hz⟩:∃ z,pa[k]? = some z:=⟨_,List.getElem?_eq_getElem (by omega)⟩
 have hlt:k<pa.length:=by omega
 have hc:iLt i (lenA pA)=true:=xU e_iLt e_lenA (by omega)
 have hatz:atA pA i=z.enc:=by simp only [ee];rw [gi];exact hel k z hz
 have kz:=Pat.closed z
 obtain ⟨zO,zA,zT,zV,zS,zN,zCo,zCa,zCv,zCf,zCk,zXk,zXn,zXt,hzf,hzfc,hzO,hzA,hzT,hzV,hzS,hzN⟩:=Pat.form2 z
 rw [hzf] at hatz kz
 by_cases hz0:z.op=0
 · have n5:iEq zO 0=true:=by simp only [ee];simp [hzO,hz0]
   have ntt:bAnd true true=true:=by simp only [ee];rfl
   have fz:=And.intro hc (And.intro hatz n5)
   refine Cq ?_
   have fz:=And.intro hc (And.intro hatz (And.intro n5 ntt))
   refine Cr ?_
   have hkm:k<m:=by
    rcases Nat.lt_or_ge k m with h | h
    · exact h
    exact absurd hz0 (hat z (by rw [show m=k by omega];exact hz))
   have hi2:iAdd .i64 i 1=((k+1:Nat):Int):=yh e_iAdd gi (by omega)
   refine zm (((k+1:Nat):Int),k+1) ⟨rfl,hkm⟩ (by dsimp only;omega) ?_
   rw [hi2]
   exact yz ⟨.refl _,.refl _,.refl _,.refl _,.refl _,trivial⟩
 have hkm:k=m:=by
  rcases Nat.lt_or_ge k m with h | h
  · exact absurd (hin k z h hz) hz0
  omega
 have n5:iEq zO 0=false:=by simp only [ee];simp [hzO,hz0]
 have ntf:bAnd true false=false:=by simp only [ee];rfl
 have fz:=And.intro hc (And.intro hatz n5)
 refine Cq ?_
 have fz:=And.intro hc (And.intro hatz (And.intro n5 ntf))
 refine Cr ?_
 refine zk ?_
 have c1:¬ m=pa.length:=by omega
 subst hkm
 obtain ⟨w,hw0⟩:∃ w,w=(pa.length:Int) - k:=⟨_,rfl⟩
 have hw:iSub .i64 (lenA pA) i=w:=by simp only [ee];simp [IntKind.wrap_i64];omega
 have n6:iEq w 0=false:=by simp only [ee];simp;omega
 have hcT:cutA pA 0 i=zy Pat.enc (pa.take k):=by simp only [ee];rw [gi];simp [hcutT]
 have k1:=kT k
 have l1:=lT k
 rw [← hcT] at k1 l1 ⊢
 have kcI:(AV.isl 14 (cutA pA 0 i)).closed=true:=by simpa only [AV.closed] using k1
 rw [if_neg c1,decide_eq_false c1]
 by_cases c3:k+1=pa.length
 · have n4:iEq w 1=true:=by simp only [ee];simp;omega
   have hdz:pa.drop k=[z]:=by
    rw [List.drop_eq_getElem_cons hlt,(List.getElem?_eq_some_iff.1 hz).2,List.drop_of_length_le (by omega)]
   rw [if_neg (by omega),hdz,listP_one,hzf]
   have fz:=hw
   refine Cq ?_
   have fz:=And.intro hw n6
   refine Cr ?_
   have fz:=And.intro n6 (And.intro n4 hatz)
   refine Cr ?_
   refine zX rfl (by conv=>lhs;cbv) rfl ?_
   have fz:=hatz
   refine tgC ?_
   refine zK ⟨rfl,?_,?_⟩
   · simp only [zJ,zd,List.append_nil];and_intros<;>first | trivial | (intro hp;first | rfl | exact absurd (show false=true from hp) Bool.false_ne_true)
   refine Aq ?_
   refine zP rfl rfl ?_
   exact ⟨[.gone,.gone],⟨trivial,trivial,trivial⟩,.tup' ⟨.cl kcI,.cl kz,.refl _,trivial⟩⟩
 have n4:iEq w 1=false:=by simp only [ee];simp;omega
 by_cases c2:k=0
 · have n3:iEq i 0=true:=by simp only [ee];simp [gi,c2]
   rw [if_pos c2,hx]
   have hcE:cutA pA 0 i=[]:=by rw [hcT,c2,List.take_zero,hE0]
   rw [hcE]
   have fz:=hw
   refine Cq ?_
   have fz:=And.intro hw n6
   refine Cr ?_
   have fz:=And.intro n6 n4
   refine Cr ?_
   have fz:=And.intro n4 n3
   refine Cr ?_
   refine zX rfl (by conv=>lhs;cbv) rfl ?_
   refine tgA ?_
   refine zK ⟨rfl,?_,?_⟩
   · simp only [zJ,zd,List.append_nil];and_intros<;>first | trivial | (intro hp;first | rfl | exact absurd (show false=true from hp) Bool.false_ne_true)
   refine Aq ?_
   refine zP rfl rfl ?_
   exact ⟨[.gone,.gone],⟨trivial,trivial,trivial⟩,.tup' ⟨.nilI _,.cl hcl,.refl _,trivial⟩⟩
 have n3:iEq i 0=false:=by simp only [ee];simp;omega
 have hcD:cutA pA i (lenA pA)=zy Pat.enc (pa.drop k):=by
  simp only [ee]
  rw [gi,← hcutD,Int.toNat_natCast,Int.toNat_natCast,List.take_length]
 have k2:=kD k
 have l2:=lD k
 have hdl:(pa.drop k).length≠1:=by rw [List.length_drop];omega
 rw [if_neg c2,listP_enc 1 _ hdl]
 rw [← hcD] at k2 l2 ⊢
 have kcD:(AV.isl 14 (cutA pA i (lenA pA))).closed=true:=by simpa only [AV.closed] using k2
 have fz:=hw
 refine Cq ?_
 have fz:=And.intro hw n6
 refine Cr ?_
 have fz:=And.intro n6 n4
 refine Cr ?_
 have fz:=And.intro n4 n3
 refine Cr ?_
 refine zX rfl (by conv=>lhs;cbv) rfl ?_
 refine tgA ?_
 refine zK ⟨rfl,?_,?_⟩
 · simp only [zJ,zd,List.append_nil];and_intros<;>first | trivial | (intro hp;first | rfl | exact absurd (show false=true from hp) Bool.false_ne_true)
 refine Aq ?_
 refine zP rfl rfl ?_
 exact ⟨[.gone,.gone],⟨trivial,trivial,trivial⟩,.tup' ⟨.cl kcI,.agg' ⟨.refl _,.cl kcD,.refl _,.refl _,.refl _,.refl _,.refl _,.nilI _,.refl _,.refl _,.refl _,.refl _,.refl _,.refl _,trivial⟩,.refl _,trivial⟩⟩
theorem P_refDivide (p:Pat) (h:p.chk=0):PCall EE 46 [p.enc] (.tup [.isl 14 (zy Pat.enc p.pre),p.rst.enc,bool p.whl]):=by
 obtain ⟨h1,h2⟩:=sJ h
 by_cases ho:p.op=1
 · exact P_refDivide2 p ho (by omega) (h2 ho)
 exact P_refDivide0 p ho
theorem P_refSplit (p:Pat) (hs:p.Sm):PCall EE 14 [p.enc] (if p.chk=0 then .tup [.isl 14 (zy Pat.enc p.pre),p.rst.enc,bool p.whl,int 0] else .tup [.isl 14 [],Pat0.enc,bool false,int p.chk]):=by
 have pc:=P_ref09_Check p hs
 have hcl:=Pat.closed p
 have hp0:Pat0.enc=_:=Pat0.enc_eq
 by_cases hc:p.chk=0
 · rw [if_pos hc]
   have pd:=P_refDivide p hc
   rw [hc] at pc
   have kI:=Pat.closedI p.pre
   have kr:=Pat.closed p.rst
   generalize zy Pat.enc p.pre=el at *
   generalize p.whl=wb at *
   generalize p.rst=r at *
   obtain ⟨rO,rA,rT,rV,rS,rN,rCo,rCa,rCv,rCf,rCk,rXk,rXn,rXt,hr⟩:=Pat.form r
   obtain ⟨pO,pA,pT,pV,pS,pN,pCo,pCa,pCv,pCf,pCk,pXk,pXn,pXt,hx⟩:=Pat.form p
   rw [hx] at hcl pc pd ⊢
   rw [hr] at pd kr ⊢
   refine zo ?_;unhygienic intros
   have k0:iNe 0 0=false:=by simp only [ee];rfl
   refine fB T14 [.t 2,.cell 3 14 true,.t 4,.t 5] ?_
   refine Aq ?_
   refine zh (args:=[.agg [int pO,.isl 14 pA,int pT,int pV,int pS,int pN,int pCo,.isl 8 pCa,int pCv,int pCf,int pCk,int pXk,int pXn,str pXt]]) rfl rfl rfl pc (zg hcl) ?_
   have fz:=k0
   refine Cq ?_
   refine goC 60 ?_
   refine zh (args:=[.agg [int pO,.isl 14 pA,int pT,int pV,int pS,int pN,int pCo,.isl 8 pCa,int pCv,int pCf,int pCk,int pXk,int pXn,str pXt]]) rfl rfl rfl pd (zg hcl) ?_
   refine Aq ?_
   refine zX rfl (by conv=>lhs;cbv) rfl ?_
   refine tgA ?_
   refine zK ⟨rfl,?_,?_⟩
   · simp only [zJ,zd,List.append_nil];and_intros<;>first | trivial | (intro hp;first | rfl | exact absurd (show false=true from hp) Bool.false_ne_true)
   refine Aq ?_
   refine zP rfl rfl ?_
   exact tu rfl (by rw [AV.closed,AV.closedL,AV.closedL,kI,kr];rfl)
 rw [if_neg hc,hp0]
 generalize p.chk=c at *
 obtain ⟨pO,pA,pT,pV,pS,pN,pCo,pCa,pCv,pCf,pCk,pXk,pXn,pXt,hx⟩:=Pat.form p
 rw [hx] at hcl pc ⊢
 refine zo ?_;unhygienic intros
 have k0:iNe c 0=true:=by simp only [ee];simpa using hc
 refine fB T14 [.t 2,.cell 3 14 true,.t 4,.t 5] ?_
 refine Aq ?_
 refine zh (args:=[.agg [int pO,.isl 14 pA,int pT,int pV,int pS,int pN,int pCo,.isl 8 pCa,int pCv,int pCf,int pCk,int pXk,int pXn,str pXt]]) rfl rfl rfl pc (zg hcl) ?_
 have fz:=k0
 refine Cq ?_
 refine goC 60 ?_
 refine zP rfl rfl ?_
 exact ⟨[.gone,.gone],⟨trivial,trivial,trivial⟩,.tup' ⟨.nilI _,.agg' ⟨.refl _,.nilI _,.refl _,.refl _,.refl _,.refl _,.refl _,.nilI _,.refl _,.refl _,.refl _,.refl _,.refl _,.refl _,trivial⟩,.refl _,.refl _,trivial⟩⟩
theorem Pat.Sm.arg' {p q:Pat} (h:p.Sm) (hq:q∈p.args):q.Sm:=by
 obtain ⟨o,a,t,v,s,n,c⟩:=p
 exact h.arg hq
theorem pat0_sm3 : Pat0.Sm:=by
 refine (Pat.Sm_iff _).2 ⟨by simp [Pat0,Pat.nodes,Pat.nodesL],fun q hq=>?_⟩
 simp [Pat0,Pat.nodes,Pat.nodesL] at hq
 subst hq
 simp [Pat.cond,tO]
theorem pre_sm {p:Pat} (h:p.Sm):∀ q∈p.pre,q.Sm:=by
 intro q hq
 unfold Pat.pre at hq
 split at hq
 · rw [List.mem_singleton.1 hq];exact h
 split at hq
 · simp at hq
 exact h.arg' (List.mem_of_mem_take hq)
theorem rst_sm {p:Pat} (h:p.Sm):p.rst.Sm:=by
 unfold Pat.rst
 split
 · exact pat0_sm3
 split
 · exact h
 split
 · exact pat0_sm3
 split
 · exact h
 obtain ⟨h1,h2⟩:=h
 refine ⟨?_,fun c hc=>?_⟩
 · have a:=listP_cnt 1 (p.args.drop (nEv p.args))
   have b:Pat.cntL p.args=Pat.cntL (p.args.take (nEv p.args))+Pat.cntL (p.args.drop (nEv p.args)):=by
    conv=>lhs;rw [← List.take_append_drop (nEv p.args) p.args]
    rw [Pat.cntL_append]
   have c:p.cnt=1+Pat.cntL p.args:=by obtain ⟨o,a,t,v,s,n,c⟩:=p;rfl
   omega
 rcases listP_exs _ _ _ hc with rfl | ⟨q,hq,hc⟩
 · exact tO
 refine h2 c ?_
 have:p.exs=p.cond :: Pat.exsL p.args:=by obtain ⟨o,a,t,v,s,n,c⟩:=p;rfl
 rw [this]
 exact List.mem_cons_of_mem _ (Pat.exs_mem hc (List.mem_of_mem_drop hq))
theorem split_both (p:Pat) (hs:p.Sm):∃ (l:List Pat) (r:Pat) (wb:Bool) (e:Int),PCall EE 13 [p.enc] (.tup [.isl 14 (zy Pat.enc l),r.enc,bool wb,int e])∧PCall EE 14 [p.enc] (.tup [.isl 14 (zy Pat.enc l),r.enc,bool wb,int e]) ∧
    PCall EE 15 [.isl 14 (zy Pat.enc l),.isl 14 (zy Pat.enc l)] (bool true)∧PCall EE 16 [r.enc,r.enc] (bool true):=by
  have h1:=P_Split p hs
  have h2:=P_refSplit p hs
  by_cases hc:p.chk=0
  · rw [if_pos hc] at h1 h2
    refine ⟨_,_,_,_,h1,h2,?_,?_⟩
    · have:=P_SamePatterns p.pre p.pre (pre_sm hs) (by have:=(sJ hc).1;unfold Pat.pre;split;(next=>simp);(next=>(split;(next=>simp);(next=>(rw [List.length_take];omega)))))
      rwa [yD] at this
    have:=vr p.rst p.rst (rst_sm hs)
    rwa [yD] at this
  rw [if_neg hc] at h1 h2
  have hE0:zy Pat.enc []=[]:=by rw [zu];rfl
  refine ⟨[],Pat0,false,p.chk,by rw [hE0];exact h1,by rw [hE0];exact h2,?_,?_⟩
  · have:=P_SamePatterns [] [] (fun q hq=>by simp at hq) (by simp)
    rwa [yD] at this
  have:=vr Pat0 Pat0 pat0_sm3
  rwa [yD] at this
theorem P_lawSplits (p:Pat) (hs:p.Sm):PCall EE 3 [p.enc] (bool true):=by
 have q1:=P_ref09_Few p hs
 have q2:=P_awake32
 obtain ⟨l,r,wb,e,q3,q4,q5,q6⟩:=split_both p hs
 have kp:=Pat.closed p
 have kr:=Pat.closed r
 have kl:=Pat.closedI l
 generalize zy Pat.enc l=es at *
 generalize p.few=fw at *
 obtain ⟨pO,pA,pT,pV,pS,pN,pCo,pCa,pCv,pCf,pCk,pXk,pXn,pXt,hx⟩:=Pat.form p
 obtain ⟨rO,rA,rT,rV,rS,rN,rCo,rCa,rCv,rCf,rCk,rXk,rXn,rXt,hr⟩:=Pat.form r
 rw [hx] at q1 q3 q4 kp ⊢
 rw [hr] at q3 q4 q6 kr
 clear hx hr hs
 refine zo ?_;unhygienic intros
 have nt:bNot true=false:=by simp only [ee];rfl
 have nf:bNot false=true:=by simp only [ee];rfl
 refine fB T3 [.t 2] ?_
 cases fw with
 | false =>
  refine Aq ?_
  refine zh (args:=[.agg [int pO,.isl 14 pA,int pT,int pV,int pS,int pN,int pCo,.isl 8 pCa,int pCv,int pCf,int pCk,int pXk,int pXn,str pXt]]) rfl rfl rfl q1 (zg kp) ?_
  have fz:=nf
  refine Cq ?_
  refine Cr ?_
  refine oPA q2 ?_
  refine Aq ?_
  exact fV
 | true =>
  refine Aq ?_
  refine zh (args:=[.agg [int pO,.isl 14 pA,int pT,int pV,int pS,int pN,int pCo,.isl 8 pCa,int pCv,int pCf,int pCk,int pXk,int pXn,str pXt]]) rfl rfl rfl q1 (zg kp) ?_
  have fz:=nt
  refine Cq ?_
  refine Cr ?_
  refine zh (args:=[.agg [int pO,.isl 14 pA,int pT,int pV,int pS,int pN,int pCo,.isl 8 pCa,int pCv,int pCf,int pCk,int pXk,int pXn,str pXt]]) rfl rfl rfl q3 (zg kp) ?_
  refine Aq ?_
  refine zh (args:=[.agg [int pO,.isl 14 pA,int pT,int pV,int pS,int pN,int pCo,.isl 8 pCa,int pCv,int pCf,int pCk,int pXk,int pXn,str pXt]]) rfl rfl rfl q4 (zg kp) ?_
  refine Aq ?_
  refine oPA q2 ?_
  refine Aq ?_
  refine xv (args:=[.isl 14 es,.isl 14 es]) rfl rfl rfl rfl q5 (by rw [AV.closedL,kl,AV.closedL,kl];rfl) ?_
  refine Aq ?_
  refine xv (args:=[.agg [int rO,.isl 14 rA,int rT,int rV,int rS,int rN,int rCo,.isl 8 rCa,int rCv,int rCf,int rCk,int rXk,int rXn,str rXt],.agg [int rO,.isl 14 rA,int rT,int rV,int rS,int rN,int rCo,.isl 8 rCa,int rCv,int rCf,int rCk,int rXk,int rXn,str rXt]]) rfl rfl rfl rfl q6 (by rw [AV.closedL,kr,AV.closedL,kr];rfl) ?_
  refine Aq ?_
  exact fBo (h:=by simp only [ee];simp)
end Go.Am
end
