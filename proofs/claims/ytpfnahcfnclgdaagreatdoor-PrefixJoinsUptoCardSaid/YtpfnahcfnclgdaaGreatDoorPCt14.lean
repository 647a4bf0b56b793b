/- Contracts of the program's functions. -/
import Derived.Test.YtpfnahcfnclgdaaGreatDoorProg
import Derived.Test.YtpfnahcfnclgdaaGreatDoorPCt12
noncomputable section
set_option maxHeartbeats 16000000
set_option maxRecDepth 100000
namespace Go.Am
open Go.Proofs
theorem P_Saved (nt:Nt) (hn:nt.Ok) (hne:wI 0 nt.brs≠[]):PCall EE 25 [nt.enc] (if nt.chk=0 then .tup [int nt.saved,int 0] else .tup [int 0,int nt.chk]):=by
 have pc:=P_nCheck nt hn
 have kn:=nt.closed
 have pn:=P_ends nt
 have hq:=X_ends nt hn.bs hn.qs
 have kb:=Br.closedI nt.brs
 have hbl:=zp Br.enc nt.brs
 have hb1:=hn.bs
 have hcd:=@chk_dec nt
 have op:=O_path nt.brs
 have cp:=fun hd=>C_path5 nt.brs nt.brs.length hd (Nat.le_refl _) hb1
 have hel:=ends_len nt.brs 0 hn.qs
 have hep:=ends_lt nt.brs 0
 have hsv:nt.saved=(svE nt.brs (wI 0 nt.brs) (List.replicate nt.brs.length false,0)).2:=rfl
 have hec:=nt.enc_eq
 rw [hec] at kn pc pn hq ⊢
 dsimp only [AV.cells] at pn hq
 generalize zy Br.enc nt.brs=bs at *
 generalize zy Au.enc nt.rest=ra at *
 have kns:AV.closedL [.isl 11 bs,.isl 4 ra]=true:=by simpa only [AV.closed] using kn
 have kcs:AV.closedL [.iptr [.isl 11 bs,.isl 4 ra]]=true:=by rw [AV.closedL,AV.closed,kns];rfl
 by_cases hc0:nt.chk=0
 rotate_left
 · rw [if_neg hc0]
   generalize nt.chk=c at *
   refine zo ?_;unhygienic intros
   have k0:iNe c 0=true:=by simp only [ee];simpa using hc0
   refine fB T25 [.t 2,.t 3] ?_
   refine Aq ?_
   refine zh (args:=[.agg [.isl 11 bs,.isl 4 ra]]) rfl rfl rfl pc (zg kn) ?_
   have fz:=k0
   refine Cq ?_
   refine goC 60 ?_
   exact fE [.gone]
 rw [if_pos hc0]
 have hd:=hcd hc0
 rw [hc0] at pc
 have cp:=cp hd
 have hups:=ups_lt hd (Nat.le_refl _)
 refine zo ?_;unhygienic intros
 have k0:iNe 0 0=false:=by simp only [ee];rfl
 obtain ⟨kn1,hkn⟩:∃ k,k=nt.brs.length:=⟨_,rfl⟩
 obtain ⟨s0,hs0⟩:∃ s0,s0=zy bool (List.replicate nt.brs.length false):=⟨_,rfl⟩
 have f1:repA (lenA bs) (bool false)=s0:=by
  simp only [ee];rw [hs0,zu,hbl];simp
 have f2:natOf (lenA bs)=kn1:=by simp only [ee];rw [hbl,hkn];simp
 refine fB T25 [.t 2,.t 3] ?_
 refine Aq ?_
 refine zh (args:=[.agg [.isl 11 bs,.isl 4 ra]]) rfl rfl rfl pc (zg kn) ?_
 have fz:=k0
 refine Cq ?_
 have fz:=And.intro k0 (And.intro f1 f2)
 refine goC 60 ?_
 refine zh (args:=[.agg [.isl 11 bs,.isl 4 ra]]) rfl rfl rfl pn (zg kn) ?_
 refine Aq ?_
 have krl:(AV.fn 112 [.iptr [.isl 11 bs,.isl 4 ra]]).closed=true:=by rw [AV.closed,kcs]
 refine AWP.ent (yz (F':=[(19,.fn 112 [.iptr [.isl 11 bs,.isl 4 ra]]),(6,.ptr 3 0),(5,.ptr 2 0),(1,.ptr 0 0)]) ⟨.refl _,.refl _,.refl _,.refl _,trivial⟩) ?_
 refine on_rfunW (ι:=List Bool × Int) 4 (fun S=>[.cells [.isl 11 bs,.isl 4 ra],.arr 1 (zy bool S.1),.cells [.sl 1 1 0 kn1],.cells [int S.2]]) (fun _=>[])
  (fun j S=>S=svE nt.brs ((wI 0 nt.brs).take j) (List.replicate nt.brs.length false,0)∧S.1.length=kn1∧0≤S.2∧S.2≤1000000 * j) (List.replicate nt.brs.length false,0) rfl (fun _=>rfl) rfl hq kcs (fun a ha=>by obtain ⟨y,_,rfl⟩:=List.mem_map.1 ha;rfl) (fun a ha=>by obtain ⟨y,_,rfl⟩:=List.mem_map.1 ha;rfl)
  ⟨rfl,by simp [hkn],Int.le_refl _,by simp⟩ ?_ (fun j args hj S hS=>?_) (fun h=>?_) (fun S hS=>?_)
 · dsimp only [List.cons_append,List.nil_append]
   rw [← hs0]
   exact HEnt.refl (by simp)
 · obtain ⟨hS1,hS2,hS3,hS4⟩:=hS
   rw [List.getElem?_map] at hj
   obtain ⟨⟨at',qy⟩,hyj,rfl⟩:=Option.map_eq_some_iff.1 hj
   have hjl:=(List.getElem?_eq_some_iff.1 hyj).1
   have hat:=hep _ (List.mem_of_getElem? hyj)
   dsimp only at hat
   have htk:(wI 0 nt.brs).take (j+1)=(wI 0 nt.brs).take j++[(at',qy)]:=by rw [List.take_add_one,hyj];rfl
   have hn1:svE nt.brs ((wI 0 nt.brs).take (j+1)) (List.replicate nt.brs.length false,0)=svP (ups nt.brs at') S:=by rw [htk,svE_app,← hS1];rfl
   have hul:=ups_len hd (Nat.le_refl _) at'.toNat at' (by omega) (Nat.le_refl _)
   have hbd:=svP_bd (ups nt.brs at') S
   have hln:=svP_len (ups nt.brs at') S
   have hlt:=hups at'.toNat at' (by omega) (Nat.le_refl _)
   have op2:=op at'
   have cp2:=cp 6
   clear hj hyj hq pc pn
   show zl _ _ _ _ _ _ (vM _ _ [int at',int qy]) _
   generalize hus:ups nt.brs at'=us at *
   have kI:(AV.iptr [.isl 11 bs]).closed=true:=by rw [AV.closed,zg kb]
   obtain ⟨u0,c0⟩:=S
   dsimp only at hS2 hS3 hS4 hn1 hbd hln ⊢
   obtain ⟨ua,hua⟩:∃ ua,ua=zy bool u0:=⟨_,rfl⟩
   rw [← hua]
   refine Aq ?_
   refine yZ rfl ?_
   refine Aq ?_
   refine wH (args:=[.isl 11 bs,int at']) (v':=.fn 113 [.ptr 5 0,.iptr [.isl 11 bs]]) (H':=[.cells [int at']]) rfl rfl rfl op2 (by rw [AV.closedL,kb];rfl) ?_ rfl ?_
   · show AV.fn _ [_,AV.sub _ _]=_
     rw [xc _ _ _ (Nat.le_refl _) kI];rfl
   refine Aq ?_
   refine AWP.ent (yz (F':=[(25,.fn 113 [.ptr 5 0,.iptr [.isl 11 bs]]),(6,.ptr 3 0),(5,.ptr 2 0),(1,.ptr 0 0)]) ⟨.refl _,.refl _,.refl _,.refl _,trivial⟩) ?_
   rw [hua]
   refine sZ rfl enters_prefix_path_1 ((cp2 (fun _=>.cells [.isl 11 bs,.isl 4 ra]) (fun i=>.arr 1 (zy bool (svP (us.take i) (u0,c0)).1)) (fun _=>.cells [.sl 1 1 0 kn1]) (fun i=>.cells [int (svP (us.take i) (u0,c0)).2]) (fun _=>.loop _ _ _ _ _ .busy none) (fun _=>[.loop _ _ _ _ _ .ready none]) (fun _=>False) at' (by omega) (fun i z hz=>?_)).mono ?_)
   · rw [hus] at hz
     have hzm:=hlt z (List.mem_of_getElem? hz)
     have hil:=(List.getElem?_eq_some_iff.1 hz).1
     have hst:svP (us.take (i+1)) (u0,c0)=((svP (us.take i) (u0,c0)).1.set z.toNat true,if (svP (us.take i) (u0,c0)).1.getD z.toNat false then (svP (us.take i) (u0,c0)).2+1 else (svP (us.take i) (u0,c0)).2):=by rw [List.take_add_one,hz,svP_app];rfl
     have hbi:=svP_bd (us.take i) (u0,c0)
     have hli:=svP_len (us.take i) (u0,c0)
     have htl:(us.take i).length≤us.length:=by rw [List.length_take];omega
     rw [hst]
     generalize svP (us.take i) (u0,c0)=Si at *
     obtain ⟨u,c⟩:=Si
     dsimp only at hbi hli ⊢
     have hzl:z.toNat<u.length:=by omega
     obtain ⟨ub,hub0⟩:∃ b,b=u.getD z.toNat false:=⟨_,rfl⟩
     rw [← hub0]
     obtain ⟨va,hva⟩:∃ x,x=zy bool u:=⟨_,rfl⟩
     obtain ⟨va2,hva2⟩:∃ x,x=zy bool (u.set z.toNat true):=⟨_,rfl⟩
     rw [← hva,← hva2]
     have hvl:=zp bool u
     rw [← hva] at hvl
     have hub:atN va (idxN 0 z)=bool ub:=by
      simp only [ee]
      rw [hva,hub0,zu]
      simp [List.getD_eq_getElem?_getD,List.getElem?_map,List.getElem?_eq_getElem hzl]
     have f3:setA va (idxN 0 z) (bool true)=va2:=by simp only [ee];rw [hva,hva2,zu,zu,List.map_set,Nat.zero_add]
     refine yield_round rfl rfl ?_
     refine Aq ?_
     refine yZ rfl ?_
     cases ub with
     | true =>
      have f4:iAdd .i64 c 1=c+1:=by rw [e_iAdd];simp [Wd.iAdd,IntKind.wrap_i64];omega
      obtain ⟨c2,hc2⟩:∃ x,x=c+1:=⟨_,rfl⟩
      rw [if_pos rfl,← hc2]
      rw [← hc2] at f4
      have fz:=And.intro hub f4
      refine Cq ?_
      have fz:=And.intro f3 f4
      refine goC 9 ?_
      refine goC 9 ?_
      exact ⟨none,rfl,.inl ⟨rfl,rfl⟩⟩
     | false =>
      rw [if_neg (by decide)]
      have fz:=hub
      refine Cq ?_
      have fz:=f3
      refine goC 9 ?_
      refine goC 9 ?_
      exact ⟨none,rfl,.inl ⟨rfl,rfl⟩⟩
   rintro e H1 (⟨z,rfl⟩ | h)
   · refine ⟨.ready,none,rfl,by decide,?_⟩
     show zl _ _ _ _ (.out .normal) _ _ _
     rw [hus,List.take_length]
     rw [← hn1] at hln hbd ⊢
     obtain ⟨S2,hS2e⟩:∃ S2,S2=svE nt.brs ((wI 0 nt.brs).take (j+1)) (List.replicate nt.brs.length false,0):=⟨_,rfl⟩
     rw [← hS2e] at hln hbd ⊢
     have hgd:S2=svE nt.brs ((wI 0 nt.brs).take (j+1)) (List.replicate nt.brs.length false,0)∧S2.1.length=kn1∧0≤S2.2∧S2.2≤1000000 * ((j+1:Nat):Int):=⟨hS2e,by omega,by omega,by push_cast;omega⟩
     clear hS2e hn1 hln hbd
     obtain ⟨u2,c2⟩:=S2
     dsimp only
     obtain ⟨ub,hub⟩:∃ x,x=zy bool u2:=⟨_,rfl⟩
     have kub:=xK u2
     rw [← hub] at kub ⊢
     refine Aq ?_
     refine vz (u2,c2) rfl ⟨rfl,hgd.2⟩ ?_
     dsimp only [List.cons_append,List.nil_append]
     rw [← hub]
     exact xx [.to 0,.to 1,.to 2,.to 3,.to 4,.gone,.gone] [some 0,some 1,some 2,some 3,some 4] rfl ⟨rfl,rfl,rfl,rfl,rfl,trivial⟩ (by simp) (by simp) ⟨⟨by simp,rfl⟩,⟨by simp,rfl⟩,⟨by simp,rfl⟩,⟨by simp,rfl⟩,⟨by simp,rfl⟩,trivial,trivial,trivial⟩ ⟨zx (b:=0) rfl rfl rfl (by rw [zw _ kns];exact WkL.refl _ _),zR (b:=1) rfl rfl rfl rfl kub,zx (b:=2) rfl rfl rfl ⟨.refl _,trivial⟩,zx (b:=3) rfl rfl rfl ⟨.refl _,trivial⟩,.some 4 _ _ rfl rfl rfl (.loop _ _ _ _ _ _ _ _ ⟨.cl krl,.refl _,.refl _,.refl _,trivial⟩),trivial⟩
   exact h.elim
 · rw [List.map_eq_nil_iff] at h
   exact absurd h hne
 obtain ⟨hS1,hS2,hS3,hS4⟩:=hS
 rw [List.length_map,List.take_length] at hS1
 rw [hsv,← hS1]
 obtain ⟨u0,c0⟩:=S
 dsimp only
 generalize zy bool u0=ua at *
 dsimp only [List.cons_append,List.nil_append]
 refine Aq ?_
 exact fE [.gone]
end Go.Am
end
