/- The abstract machine that the walks of this claim are carried out on: no condition. -/
import Derived.Test.YtpdmaimjllhooaaGreatDoorRAm4
import Derived.Test.YtpdmaimjllhooaaGreatDoorRAm3
import Derived.Lib.Overlaps
import Derived.ChangeKeysEq
import Derived.ProofKit
import Derived.ReadAgain
import Derived.SizedLaws
import Derived.OpenShut
section
namespace Go.Am
def uk (L:List Nat) (m:Nat) (b:Nat):Nat:=if b<L.length then L.getD b 0 else b - L.length+m
def vu (L:List Nat) (m:Nat):Nat→Sub:=fun b=>.to (uk L m b)
def vM (x:Nat):Nat→List Nat→Option Nat
 | _,[]=>none
 | i,y :: r=>cond (Nat.beq x y) (some i) (vM x (i+1) r)
def ya (L:List Nat):Nat→Sub:=fun x=>match vM x 0 L with
 | some j=>.to j
 | none=>.gone
theorem vg {x:Nat}:∀ {L:List Nat} {i j:Nat},vM x i L=some j→i≤j∧L[j - i]? = some x
 | [],i,j,h=>by cases h
 | y :: r,i,j,h=>by
  simp only [vM] at h
  cases hb:Nat.beq x y with
  | true =>
   rw [hb,cond_true] at h;cases h
   exact ⟨Nat.le_refl _,by simp [Nat.eq_of_beq_eq_true hb]⟩
  | false =>
   rw [hb,cond_false] at h
   obtain ⟨h1,h2⟩:=vg h
   refine ⟨by omega,?_⟩
   rw [show j - i=(j - (i+1))+1 by omega];simpa using h2
theorem posOf_none {x:Nat}:∀ {L:List Nat} {i:Nat},vM x i L=none→x∉L
 | [],i,_=>by simp
 | y :: r,i,h=>by
  simp only [vM] at h
  cases hb:Nat.beq x y with
  | true=>rw [hb,cond_true] at h;cases h
  | false =>
   rw [hb,cond_false] at h
   intro hm
   rcases List.mem_cons.1 hm with rfl | hm
   · rw [Nat.beq_refl] at hb;cases hb
   · exact posOf_none h hm
def yX (H:zz) (L:List Nat) (H':zz):zz :=
 (List.range H.length).map (fun x=>match vM x 0 L with
  | some j=>(H'.getD j .dead).sub (vu L H.length)
  | none=>H.getD x .dead)++(H'.drop L.length).map (AObj.sub (vu L H.length))
theorem mergeH_len (H:zz) (L:List Nat) (H':zz):(yX H L H').length=H.length+(H'.length - L.length):=by simp [yX]
theorem mergeH_lt {H:zz} {L:List Nat} {H':zz} {x:Nat} (hx:x<H.length):(yX H L H')[x]? = some (match vM x 0 L with
 | some j=>(H'.getD j .dead).sub (vu L H.length)
 | none=>H.getD x .dead):=by
 unfold yX
 rw [List.getElem?_append_left (by simpa using hx)]
 simp [hx]
theorem mergeH_ge {H:zz} {L:List Nat} {H':zz} {x:Nat} (hx:H.length≤x):(yX H L H')[x]? = (H'[x - H.length+L.length]?).map (AObj.sub (vu L H.length)):=by
 unfold yX
 rw [List.getElem?_append_right (by simpa using hx)]
 simp only [List.length_map,List.length_range,List.getElem?_map,List.getElem?_drop]
 rw [Nat.add_comm L.length]
theorem getElem?_getD {α:Type} {l:List α} {i:Nat} {x d:α} (h:l[i]? = some x):l.getD i d=x:=by simp [List.getD_eq_getElem?_getD,h]
theorem ACall.frame {E:Env} {f:FuncId} {args:List AV} {Hl:zz} {R:AV→zz→Prop} (h:ACall E f args Hl R) {H:zz} {args':List AV} (L:List Nat) (hnd:L.Nodup) (hlt:∀ x∈L,x<H.length)
 (hHl:Hl=L.map fun x=>(H.getD x .dead).sub (ya L)) (hargs:args=args'.map (AV.sub (ya L))) :
 ACall E f args' H fun v H2=>∃ v0 H',R v0 H'∧L.length≤H'.length∧v=v0.sub (vu L H.length)∧H2=yX H L H':=by
 intro K w ys hh hv
 have hn:Hl.length=L.length:=by rw [hHl,List.length_map]
 have hLj:∀ {j x:Nat},L[j]? = some x→x<H.length:=fun h=>hlt _ (List.mem_of_getElem? h)
 have hpos:∀ {j x:Nat},L[j]? = some x→vM x 0 L=some j:=by
  intro j x hj
  cases hp:vM x 0 L with
  | none=>exact absurd (List.mem_of_getElem? hj) (posOf_none hp)
  | some i =>
   obtain ⟨_,hi⟩:=vg hp
   rw [Nat.sub_zero] at hi
   rw [(List.getElem?_inj (List.getElem?_eq_some_iff.1 hi).1 hnd).1 (hi.trans hj.symm)]
 have hin:∀ {j x:Nat},L[j]? = some x→uk L H.length j=x:=by
  intro j x hj
  have:=(List.getElem?_eq_some_iff.1 hj).1
  rw [uk,if_pos this,getElem?_getD hj]
 let Kl:Ctx:=⟨fun j=>match L[j]? with | some x=>K.γ x | none=>none,K.I⟩
 have hKl:∀ {j x:Nat},L[j]? = some x→Kl.γ j=K.γ x:=fun {j x} hj=>by show (match L[j]? with | some x=>K.γ x | none=>none)=_;rw [hj]
 have sok:u9 E K w H (ya L) Kl Hl.length:=by
  refine ⟨fun b b' hb hs=>?_,fun b k es hb hs=>?_,fun b cs hb hs=>?_,fun b h=>h,fun b blk base hb h1 h2=>?_⟩
  · unfold ya at hs
    split at hs
    · rename_i j hp
      cases hs
      obtain ⟨_,hj⟩:=vg hp
      rw [Nat.sub_zero] at hj
      exact ⟨by rw [hn];exact (List.getElem?_eq_some_iff.1 hj).1,hKl hj⟩
    · cases hs
  · unfold ya at hs;split at hs<;>cases hs
  · unfold ya at hs;split at hs<;>cases hs
  · exfalso
    cases hp:vM b 0 L with
    | some j=>exact h1 j (by simp only [ya,hp])
    | none=>exact h2 (by simp only [ya,hp])
 have out:∀ v y,VRep K H.length w v y→VRep Kl Hl.length w (v.sub (ya L)) y:=fun v y hv=>wq hh sok _ v y (Nat.le_refl _) hv
 have hget:∀ {j:Nat} {o:AObj},Hl[j]? = some o→∃ (x:Nat) (o0:AObj),L[j]? = some x∧H[x]? = some o0∧o=o0.sub (ya L):=by
  intro j o hj
  rw [hHl,List.getElem?_map] at hj
  obtain ⟨x,hx,rfl⟩:=Option.map_eq_some_iff.1 hj
  have hxl:=hLj hx
  exact ⟨x,H.getD x .dead,hx,by simp [List.getD_eq_getElem?_getD,hxl],rfl⟩
 have hownl:∀ {blk:Nat},yJ Kl Hl blk→∃ (j x:Nat),L[j]? = some x∧∃ o base,H[x]? = some o∧o.live∧K.γ x=some (blk,base):=by
  rintro blk ⟨j,o,base,h1,h2,h3⟩
  obtain ⟨x,o0,g1,g2,rfl⟩:=hget h1
  exact ⟨j,x,g1,o0,base,g2,AObj.sub_live h2,by rw [← hKl g1];exact h3⟩
 have hHRl:HRep E Kl w Hl:=by
  refine ⟨fun j o hj=>?_,fun j j' o o' blk b1 b2 h1 h2 l1 l2 e1 e2=>?_,fun blk hb hi=>?_,hh.low,fun g=>?_⟩
  · obtain ⟨x,o0,g1,g2,rfl⟩:=hget hj
    rw [hKl g1]
    exact ue out (hh.obj x o0 g2)
  · obtain ⟨x,o0,g1,g2,rfl⟩:=hget h1
    obtain ⟨x',o0',g1',g2',rfl⟩:=hget h2
    rw [hKl g1] at e1;rw [hKl g1'] at e2
    have:=hh.inj x x' o0 o0' blk b1 b2 g2 g2' (AObj.sub_live l1) (AObj.sub_live l2) e1 e2
    subst this
    exact (List.getElem?_inj (List.getElem?_eq_some_iff.1 g1).1 hnd).1 (g1.trans g1'.symm)
  · obtain ⟨j,x,g1,o,base,g2,g3,g4⟩:=hownl hb
    exact hh.disj blk ⟨x,o,base,g2,g3,g4⟩ hi
  · exact VRep.mono (K:=K) (K':=Kl) (fun b hb=>absurd hb (Nat.not_lt_zero _)) (Nat.le_refl _) (fun _ h=>h) (fun _ _ _=>rfl) (fun b c ty fz h=>⟨c,fz,h,rfl⟩) (hh.glob g)
 have hvl:VReps Kl Hl.length w args ys:=by
  refine ⟨by rw [hargs,List.length_map];exact hv.1,fun i x y hx hy=>?_⟩
  rw [hargs,List.getElem?_map] at hx
  obtain ⟨x0,hx0,rfl⟩:=Option.map_eq_some_iff.1 hx
  exact out _ _ (hv.2 i x0 y hx0 hy)
 refine (h Kl w ys hHRl hvl).mono ?_
 rintro e w' ⟨v0,y,H',K1,rfl,hR,hh1,hv1,ev⟩
 have hlen:L.length≤H'.length:=by rw [← hn];exact ev.len
 let K2:Ctx:=⟨fun x=>if x<H.length then K.γ x else K1.γ (x - H.length+L.length),K1.I⟩
 have hK2in:∀ b,K2.γ (uk L H.length b)=K1.γ b:=by
  intro b
  show (if uk L H.length b<H.length then K.γ (uk L H.length b) else K1.γ (uk L H.length b - H.length+L.length))=K1.γ b
  by_cases hb:b<L.length
  · have hj:=List.getElem?_eq_getElem hb
    rw [hin hj,if_pos (hLj hj),← hKl hj]
    exact (ev.γ b (by rw [hn];exact hb)).symm
  · have e1:uk L H.length b=b - L.length+H.length:=by rw [uk,if_neg hb]
    rw [e1,if_neg (by omega),show b - L.length+H.length - H.length+L.length=b by omega]
 have hK2lt:∀ x,x<H.length→K2.γ x=K.γ x:=fun x hx=>by show (if x<H.length then _ else _)=_;rw [if_pos hx]
 have hinlt:∀ b,b<H'.length→uk L H.length b<(yX H L H').length:=by
  intro b hb
  rw [mergeH_len]
  by_cases hbl:b<L.length
  · have hj:=List.getElem?_eq_getElem hbl
    rw [hin hj];have:=hLj hj;omega
  · rw [uk,if_neg hbl];omega
 have sok2:u9 E K1 w' H' (vu L H.length) K2 (yX H L H').length:=by
  refine ⟨fun b b' hb hs=>?_,fun b k es hb hs=>?_,fun b cs hb hs=>?_,fun b h=>h,fun b blk base hb h1 h2=>?_⟩
  · cases hs;exact ⟨hinlt b hb,hK2in b⟩
  · cases hs
  · cases hs
  · exact absurd rfl (h1 _)
 have inn:∀ v y,VRep K1 H'.length w' v y→VRep K2 (yX H L H').length w' (v.sub (vu L H.length)) y:=fun v y hv=>wq hh1 sok2 _ v y (Nat.le_refl _) hv
 -- the blocks that the call was not given
 have hnot:∀ {x:Nat} {o:AObj} {blk base:Nat},x∉L→H[x]? = some o→o.live→K.γ x=some (blk,base)→¬ yJ Kl Hl blk:=by
  intro x o blk base hx ho hl hg hb
  obtain ⟨j,x',g1,o',base',g2,g3,g4⟩:=hownl hb
  have:=hh.inj x x' o o' blk base base' ho g2 hl g3 hg g4
  subst this
  exact hx (List.mem_of_getElem? g1)
 have hmv:Mv K H.length w K2 (yX H L H').length w':=by
  refine ⟨hK2lt,by rw [mergeH_len];omega,ev.I,fun b hb o=>?_,ev.cells⟩
  have hnb:¬ yJ Kl Hl b:=fun hx=>hHRl.disj b hx hb
  exact y7 (ev.frame b (hh.low b hb) hnb) o
 -- a live object of the new heap
 have src:∀ {x:Nat} {o:AObj} {blk base:Nat},(yX H L H')[x]? = some o→o.live→K2.γ x=some (blk,base) →
  (∃ (b:Nat) (o':AObj),x=uk L H.length b∧H'[b]? = some o'∧o'.live∧K1.γ b=some (blk,base))∨(x∉L∧x<H.length∧H[x]? = some o∧K.γ x=some (blk,base)):=by
  intro x o blk base hx hl hg
  by_cases hlt':x<H.length
  · rw [mergeH_lt hlt'] at hx
    cases hp:vM x 0 L with
    | some j =>
     rw [hp] at hx
     simp only [Option.some.injEq] at hx
     obtain ⟨_,hj⟩:=vg hp
     rw [Nat.sub_zero] at hj
     have hjl:j<H'.length:=by have:=(List.getElem?_eq_some_iff.1 hj).1;omega
     have hoj:H'[j]? = some (H'.getD j .dead):=by simp [List.getD_eq_getElem?_getD,hjl]
     subst hx
     exact .inl ⟨j,_,(hin hj).symm,hoj,AObj.sub_live hl,by rw [← hK2in,hin hj];exact hg⟩
    | none =>
     rw [hp] at hx
     simp only [Option.some.injEq] at hx
     have:H[x]? = some (H.getD x .dead):=by simp [List.getD_eq_getElem?_getD,hlt']
     exact .inr ⟨posOf_none hp,hlt',by rw [this,hx],by rw [← hK2lt x hlt'];exact hg⟩
  · rw [mergeH_ge (by omega)] at hx
    obtain ⟨o',ho',rfl⟩:=Option.map_eq_some_iff.1 hx
    have e1:uk L H.length (x - H.length+L.length)=x:=by rw [uk,if_neg (by omega)];omega
    exact .inl ⟨_,o',e1.symm,ho',AObj.sub_live hl,by rw [← hK2in,e1];exact hg⟩
 have hown2:∀ {blk:Nat},yJ K2 (yX H L H') blk→yJ K1 H' blk∨∃ (x:Nat) (o:AObj) (base:Nat),x∉L∧H[x]? = some o∧o.live∧K.γ x=some (blk,base):=by
  rintro blk ⟨x,o,base,h1,h2,h3⟩
  rcases src h1 h2 h3 with ⟨b,o',_,g1,g2,g3⟩ | ⟨g1,_,g2,g3⟩
  · exact .inl ⟨b,o',base,g1,g2,g3⟩
  · exact .inr ⟨x,o,base,g1,g2,h2,g3⟩
 have hownK:∀ {blk:Nat},yJ Kl Hl blk→yJ K H blk:=fun hb=>by
  obtain ⟨j,x,g1,o,base,g2,g3,g4⟩:=hownl hb
  exact ⟨x,o,base,g2,g3,g4⟩
 have hh2:HRep E K2 w' (yX H L H'):=by
  refine ⟨fun x o hx=>?_,fun x x' o o' blk b1 b2 h1 h2 l1 l2 e1 e2=>?_,fun blk hb hi=>?_,hh1.low,fun g=>?_⟩
  · by_cases hlt':x<H.length
    · rw [mergeH_lt hlt'] at hx
      cases hp:vM x 0 L with
      | some j =>
       rw [hp] at hx
       simp only [Option.some.injEq] at hx
       obtain ⟨_,hj⟩:=vg hp
       rw [Nat.sub_zero] at hj
       have hjl:j<H'.length:=by have:=(List.getElem?_eq_some_iff.1 hj).1;omega
       have hoj:H'[j]? = some (H'.getD j .dead):=by simp [List.getD_eq_getElem?_getD,hjl]
       subst hx
       rw [show K2.γ x=K1.γ j by rw [← hK2in,hin hj]]
       exact ue inn (hh1.obj j _ hoj)
      | none =>
       rw [hp] at hx
       simp only [Option.some.injEq] at hx
       have hox:H[x]? = some o:=by rw [← hx];simp [List.getD_eq_getElem?_getD,hlt']
       rw [hK2lt x hlt']
       refine hmv.orep (hh.obj x o hox) fun blk base hg hl=>?_
       exact ev.frame blk (xl hh ⟨x,o,base,hox,hl,hg⟩) (hnot (posOf_none hp) hox hl hg)
    · rw [mergeH_ge (by omega)] at hx
      obtain ⟨o',ho',rfl⟩:=Option.map_eq_some_iff.1 hx
      have e1:uk L H.length (x - H.length+L.length)=x:=by rw [uk,if_neg (by omega)];omega
      rw [show K2.γ x=K1.γ (x - H.length+L.length) by rw [← hK2in,e1]]
      exact ue inn (hh1.obj _ _ ho')
  · rcases src h1 l1 e1 with ⟨b,p,q1,q2,q3,q4⟩ | ⟨q1,q2,q3,q4⟩<;>rcases src h2 l2 e2 with ⟨b',p',r1,r2,r3,r4⟩ | ⟨r1,r2,r3,r4⟩
    · rw [q1,r1,hh1.inj b b' p p' blk b1 b2 q2 r2 q3 r3 q4 r4]
    · rcases ev.own blk ⟨b,p,b1,q2,q3,q4⟩ with hc | hc
      · exact absurd hc (hnot r1 r3 l2 r4)
      · have:=xl hh ⟨x',o',b2,r3,l2,r4⟩;omega
    · rcases ev.own blk ⟨b',p',b2,r2,r3,r4⟩ with hc | hc
      · exact absurd hc (hnot q1 q3 l1 q4)
      · have:=xl hh ⟨x,o,b1,q3,l1,q4⟩;omega
    · exact hh.inj x x' o o' blk b1 b2 q3 r3 l1 l2 q4 r4
  · rcases hown2 hb with hb | ⟨x,o,base,g1,g2,g3,g4⟩
    · exact hh1.disj blk hb hi
    · have hox:yJ K H blk:=⟨x,o,base,g2,g3,g4⟩
      rcases ev.I' blk hi with hc | hc | hc
      · exact hh.disj blk hox hc
      · exact hnot g1 g2 g3 g4 hc
      · have:=xl hh hox;omega
  · exact VRep.mono (K:=K1) (K':=K2) (fun b hb=>absurd hb (Nat.not_lt_zero _)) (Nat.le_refl _) (fun _ h=>h) (fun _ _ _=>rfl) (fun b c ty fz h=>⟨c,fz,h,rfl⟩) (hh1.glob g)
 refine ⟨_,y,_,K2,rfl,⟨v0,H',hR,hlen,rfl,rfl⟩,hh2,inn _ _ hv1,⟨hK2lt,by rw [mergeH_len];omega,ev.I,fun b hb=>?_,fun b hb=>?_,fun b hb hno=>ev.frame b hb fun hx=>hno (hownK hx),ev.size,ev.cells,ev.loops,ev.os,ev.out⟩⟩
 · rcases ev.I' b hb with hc | hc | hc
   · exact .inl hc
   · exact .inr (.inl (hownK hc))
   · exact .inr (.inr hc)
 · rcases hown2 hb with hb | ⟨x,o,base,g1,g2,g3,g4⟩
   · exact (ev.own b hb).elim (fun h=>.inl (hownK h)) .inr
   · exact .inl ⟨x,o,base,g2,g3,g4⟩
end Go.Am
end
section
namespace Go.Am
theorem zp (σ:Nat→Sub) {cs:List AV} (h:AV.closedL cs=true):AV.subL σ cs=cs:=by
 rw [AV.subL_eq]
 conv=>rhs;rw [← List.map_id cs]
 exact List.map_congr_left fun c hm=>zX σ _ c (Nat.le_refl _) (AV.closedL_mem h c hm)
theorem closedL_append {a b:List AV} (ha:AV.closedL a=true) (hb:AV.closedL b=true):AV.closedL (a++b)=true :=
 AV.closedL_of fun c hc=>(List.mem_append.1 hc).elim (AV.closedL_mem ha c) (AV.closedL_mem hb c)
theorem yE {H:zz} {M:Nat} {σ:Nat→Sub} {τ:Nat→Option Nat} {b' b k:Nat} {es es':List AV} (hH:H[b]? = some (.arr k es)) (ht:τ b'=some b) (hs:σ b=.to b') (he:es=es') (hcl:AV.closedL es'=true):tg H M σ τ b' (.arr k es'):=by
 subst he
 refine .some b _ _ hH ht hs (.arr k es es (by rw [zp σ hcl];exact WkL.refl M es) fun i e e' h1 h2=>?_)
 rw [h1] at h2;cases h2;rfl
theorem ze {H:zz} {M:Nat} {σ:Nat→Sub} {τ:Nat→Option Nat} {b' b:Nat} {cs cs':List AV} (hH:H[b]? = some (.cells cs)) (ht:τ b'=some b) (hs:σ b=.to b') (he:WkL M (AV.subL σ cs) cs'):tg H M σ τ b' (.cells cs') :=
 .some b _ _ hH ht hs (.cells cs cs' he)
theorem yh {σ:Nat→Sub} {b k n:Nat} {es:List AV} (hs:σ b=.isl k es) (hn:n=es.length):(AV.sl b k 0 n).sub σ=.isl k es:=by
 subst hn
 simp only [AV.sub,hs,Nat.beq_refl,Bool.true_and,Nat.zero_add]
 have:Nat.ble es.length es.length=true:=Nat.ble_eq_true_of_le (Nat.le_refl _)
 rw [this];simp
def tJ : Nat→List (Option Nat)→Prop
 | _,[]=>True
 | i,x :: r=>x=some i∧tJ (i+1) r
theorem keepT_spec : ∀ {T:List (Option Nat)} {i:Nat},tJ i T→∀ (b:Nat),b<T.length→T[b]? = some (some (i+b))
 | [],i,h,b,hb=>by simp at hb
 | x :: r,i,h,b,hb=>by
  cases b with
  | zero=>simp [h.1]
  | succ b=>have:=keepT_spec h.2 b (by simpa using hb);simp [this];omega
theorem yR {E:Env} {n N:Nat} {F F':AFr} {H H':zz} (L:List Sub) (T:List (Option Nat)) (hN:tJ 0 (T.take N)) (hT:N≤T.length) (hNH:N≤H'.length) (h1:SubL H H'.length T (ofL L) 0 L) (h2:ObjL H H'.length (ofL L) (ofT T) 0 H') (h3:FWk H'.length (ofL L) F F'):Ent E n N F H F' H':=by
 intro K w tmps hh hF _
 have key:∀ b s,ofL L b=s→s≠.gone→L[b]? = some s:=by
  intro b s h hs
  unfold ofL at h
  cases hb:L[b]? with
  | none=>rw [hb] at h;exact absurd h.symm hs
  | some x=>rw [hb] at h;simp at h;rw [h]
 obtain ⟨K',a,b,c⟩:=hrep_sub (N:=N) hh (ofL L) (ofT T) (fun b hb=>by
  have:=keepT_spec hN b (by rw [List.length_take];omega)
  rw [List.getElem?_take,if_pos hb] at this
  simp [ofT,this]) hNH (fun b b' _ hs=>by
  have:=h1.spec b _ (key b _ hs (by simp))
  simp only [Nat.zero_add] at this
  exact ⟨this.1,by simp [ofT,this.2]⟩) (fun b k es' _ hs=>by
  have:=h1.spec b _ (key b _ hs (by simp));simpa only [Nat.zero_add] using this) (fun b cs' _ hs=>by
  have:=h1.spec b _ (key b _ hs (by simp));simpa only [Nat.zero_add] using this) (fun b' o' ho=>by
  have:=h2.spec b' o' ho;simpa only [Nat.zero_add] using this)
 exact ⟨K',a,⟨hF.1,fun t=>(h3.spec t).rep (wq hh b _ _ _ (Nat.le_refl _) (hF.2 t))⟩,c⟩
def vi (m:Nat):Nat→Sub:=fun b=>cond (Nat.blt b m) (.to b) .gone
theorem keepS_or (m b:Nat):(vi m b=.to b∧b<m)∨vi m b=.gone:=by
 unfold vi
 cases hc:Nat.blt b m with
 | true=>exact .inl ⟨rfl,Nat.le_of_ble_eq_true hc⟩
 | false=>exact .inr rfl
theorem hrep_drop {E:Env} {K:Ctx} {w:World} {H X:zz} (hh:HRep E K w (H++X)) (hb:∀ o∈H,o.sub (vi H.length)=o) :
 HRep E K w H∧(∀ N,N≤H.length→Ev N K (H++X) w K H w)∧∀ v y,VRep K (H++X).length w v y→VRep K H.length w (v.sub (vi H.length)) y:=by
 have hle:H.length≤(H++X).length:=by simp
 have sok:u9 E K w (H++X) (vi H.length) K H.length:=by
  refine ⟨fun b b' hb hs=>?_,fun b k es hb hs=>?_,fun b cs hb hs=>?_,fun b h=>h,fun b blk base hb h1 h2=>?_⟩
  all_goals rcases keepS_or H.length b with ⟨hc,hl⟩ | hc
  · rw [hc] at hs;cases hs;exact ⟨hl,rfl⟩
  · rw [hc] at hs;cases hs
  · rw [hc] at hs;cases hs
  · rw [hc] at hs;cases hs
  · rw [hc] at hs;cases hs
  · rw [hc] at hs;cases hs
  · exact absurd hc (h1 b)
  · exact absurd hc h2
 have rep:∀ v y,VRep K (H++X).length w v y→VRep K H.length w (v.sub (vi H.length)) y:=fun v y hv=>wq hh sok _ v y (Nat.le_refl _) hv
 have get:∀ {b:Nat} {o:AObj},H[b]? = some o→(H++X)[b]? = some o:=fun {b o} h=>by rw [List.getElem?_append_left (List.getElem?_eq_some_iff.1 h).1];exact h
 have own:∀ b,yJ K H b→yJ K (H++X) b:=fun b ⟨i,o,base,h1,h2,h3⟩=>⟨i,o,base,get h1,h2,h3⟩
 refine ⟨⟨fun b o hb'=>?_,fun b b' o o' blk b1 b2 h1 h2=>hh.inj b b' o o' blk b1 b2 (get h1) (get h2),fun blk h=>hh.disj blk (own blk h),hh.low,hh.glob⟩,
  fun N hN=>{ Ev.refl N K (H++X) w (by omega) with len:=hN,I:=fun _ h=>h,I':=fun _ h=>.inl h,own:=fun b h=>.inl (own b h) },rep⟩
 have:=ue rep (hh.obj b o (get hb'))
 rwa [hb o (List.mem_of_getElem? hb')] at this
theorem on_drop {E:Env} {n N:Nat} {F F':AFr} {H X:zz} {l:List AOper} {Q:zL→AFr→zz→Prop} {k:List KI} (hb:∀ o∈H,o.sub (vi H.length)=o) (hN:N≤H.length) (hF:FWk H.length (vi H.length) F F') (h:Holds E n N Q (.ops l) k F' H):Holds E n N Q (.ops l) k F (H++X):=by
 refine AOps.ent (fun K w tmps h1 h2 h3=>?_) h
 obtain ⟨a,b,c⟩:=hrep_drop h1 hb
 exact ⟨K,a,⟨h2.1,fun t=>(hF.spec t).rep (c _ _ (h2.2 t))⟩,b N hN⟩
def tp (l:Nat):Nat→Sub:=fun b=>cond (Nat.beq b l) (.to l) .gone
theorem onlyS_or (l b:Nat):(tp l b=.to l∧b=l)∨tp l b=.gone:=by
 unfold tp
 cases hc:Nat.beq b l with
 | true=>exact .inl ⟨rfl,Nat.eq_of_beq_eq_true hc⟩
 | false=>exact .inr rfl
def HEnt (E:Env) (N l:Nat) (H H':zz):Prop :=
 ∀ K w,HRep E K w H→N≤H.length→∃ K',HRep E K' w H'∧Ev N K H w K' H' w∧∀ v y,VRep K H.length w v y→VRep K' H'.length w (v.sub (tp l)) y
theorem HEnt.ent {E:Env} {n N l:Nat} {H H':zz} {F F':AFr} (h:HEnt E N l H H') (hF:FWk H'.length (tp l) F F'):Ent E n N F H F' H':=by
 intro K w tmps h1 h2 h3
 obtain ⟨K',a,b,c⟩:=h K w h1 h3
 exact ⟨K',a,⟨h2.1,fun t=>(hF.spec t).rep (c _ _ (h2.2 t))⟩,b⟩
theorem HEnt.refl {E:Env} {N l:Nat} {H:zz} (hl:l<H.length):HEnt E N l H H:=by
 intro K w h1 h3
 refine ⟨K,h1,Ev.refl _ _ _ _ h3,fun v y hv=>?_⟩
 refine wq h1 (σ:=tp l) (K':=K) ⟨fun b b' hb hs=>?_,fun b k es hb hs=>?_,fun b cs hb hs=>?_,fun b h=>h,fun b blk base hb h1 h2=>?_⟩ _ v y (Nat.le_refl _) hv
 all_goals rcases onlyS_or l b with ⟨hc,e⟩ | hc
 · rw [hc] at hs;cases hs;rw [e];exact ⟨hl,rfl⟩
 · rw [hc] at hs;cases hs
 · rw [hc] at hs;cases hs
 · rw [hc] at hs;cases hs
 · rw [hc] at hs;cases hs
 · rw [hc] at hs;cases hs
 · exact absurd hc (h1 l)
 · exact absurd hc h2
theorem xV {E:Env} {N l:Nat} {H H':zz} (L:List Sub) (T:List (Option Nat)) (hl:L[l]? = some (.to l)) (hN:tJ 0 (T.take N)) (hT:N≤T.length) (hNH:N≤H'.length) (h1:SubL H H'.length T (ofL L) 0 L) (h2:ObjL H H'.length (ofL L) (ofT T) 0 H'):HEnt E N l H H':=by
 intro K w hh h3
 have key:∀ b s,ofL L b=s→s≠.gone→L[b]? = some s:=by
  intro b s h hs
  unfold ofL at h
  cases hb:L[b]? with
  | none=>rw [hb] at h;exact absurd h.symm hs
  | some x=>rw [hb] at h;simp at h;rw [h]
 obtain ⟨K',a,b,c⟩:=hrep_sub (N:=N) hh (ofL L) (ofT T) (fun b hb=>by
  have:=keepT_spec hN b (by rw [List.length_take];omega)
  rw [List.getElem?_take,if_pos hb] at this
  simp [ofT,this]) hNH (fun b b' _ hs=>by
  have:=h1.spec b _ (key b _ hs (by simp))
  simp only [Nat.zero_add] at this
  exact ⟨this.1,by simp [ofT,this.2]⟩) (fun b k es' _ hs=>by
  have:=h1.spec b _ (key b _ hs (by simp));simpa only [Nat.zero_add] using this) (fun b cs' _ hs=>by
  have:=h1.spec b _ (key b _ hs (by simp));simpa only [Nat.zero_add] using this) (fun b' o' ho=>by
  have:=h2.spec b' o' ho;simpa only [Nat.zero_add] using this)
 refine ⟨K',a,c,fun v y hv=>?_⟩
 have hol:ofL L l=.to l:=by simp [ofL,hl]
 refine wq hh (σ:=tp l) (K':=K') ⟨fun x b' hx hs=>?_,fun x k es hx hs=>?_,fun x cs hx hs=>?_,b.I,fun x blk base hx h1 h2=>?_⟩ _ v y (Nat.le_refl _) hv
 all_goals rcases onlyS_or l x with ⟨hc,e⟩ | hc
 · rw [hc] at hs;cases hs;rw [e] at hx ⊢;exact b.to _ _ hx hol
 · rw [hc] at hs;cases hs
 · rw [hc] at hs;cases hs
 · rw [hc] at hs;cases hs
 · rw [hc] at hs;cases hs
 · rw [hc] at hs;cases hs
 · exact absurd hc (h1 l)
 · exact absurd hc h2
section
variable {E:Env} {n N:Nat} {Q:zL→AFr→zz→Prop} {k:List KI} {F:AFr} {H:zz}
theorem on_callv {o:AOper} {l:List AOper} {x:Opd} {xs:List Opd} {fv:AV} {args:List AV} {R:AV→zz→Prop} (hg:o.guard=none) (ho:o.op=.callv x xs) (hf:x.ev E.G F=fv) (ha:xs.map (·.ev E.G F)=args) (hc:ACallV E fv args H R)
 (h:∀ v H1,R v H1→Holds E n N Q (.ops l) k (F.set o.dst v) H1):Holds E n N Q (.ops (o :: l)) k F H :=
 aops_callv (by rw [hg];rfl) ho hf ha hc h
theorem on_gpcall {o:AOper} {l:List AOper} {f:FuncId} {xs:List Opd} {args:List AV} {v:AV} {d:Nat} {b:Bool} (hg:o.guard=some (d,b)) (hd:F.get d=.val (.bool b)) (ho:o.op=.call f xs) (ha:xs.map (·.ev E.G F)=args) (hc:PCall E f args v) (hcl:AV.closedL args=true)
 (h:Holds E n N Q (.ops l) k (F.set o.dst v) H):Holds E n N Q (.ops (o :: l)) k F H :=
 aops_pcall (by rw [hg];simp only [zK,hd];cases b<;>rfl) ho ha hc hcl h
def OCall (E:Env) (f:FuncId) (args:List AV) (v:AV) (H0:zz):Prop:=yr E.P f∧ACall E f args [] fun v' H'=>v'=v∧H'=H0
def sh (m:Nat):Nat→Sub:=fun b=>.to (b+m)
theorem subIn_nil (m:Nat):vu [] m=sh m:=by funext b;simp [vu,sh,uk]
theorem OCall.lift {f:FuncId} {args:List AV} {v:AV} {H0:zz} (h:OCall E f args v H0) (hcl:AV.closedL args=true):ACall E f args H fun v' H'=>v'=v.sub (sh H.length)∧H'=H++H0.map (AObj.sub (sh H.length)):=by
 refine ACall.mono (ACall.frame h.2 (H:=H) (args':=args) [] List.nodup_nil (fun x hx=>by cases hx) rfl ?_) ?_
 · have:=zp (ya []) hcl
   rw [AV.subL_eq] at this;exact this.symm
 · rintro v' H' ⟨v0,H1,⟨rfl,rfl⟩,_,rfl,rfl⟩
   rw [subIn_nil]
   refine ⟨rfl,?_⟩
   unfold yX
   rw [subIn_nil]
   congr 1
   apply List.ext_getElem?
   intro i
   by_cases hi:i<H.length
   · simp [vM,hi,List.getD_eq_getElem?_getD]
   · rw [List.getElem?_eq_none (by simp;omega),List.getElem?_eq_none (by omega)]
theorem on_ocall {o:AOper} {l:List AOper} {f:FuncId} {xs:List Opd} {args:List AV} {v v':AV} {H0 H':zz} (hg:o.guard=none) (ho:o.op=.call f xs) (ha:xs.map (·.ev E.G F)=args) (hc:OCall E f args v H0) (hcl:AV.closedL args=true)
 (hv:v.sub (sh H.length)=v') (hH:H0.map (AObj.sub (sh H.length))=H') (h:Holds E n N Q (.ops l) k (F.set o.dst v') (H++H')):Holds E n N Q (.ops (o :: l)) k F H:=by
 refine xL (by rw [hg];rfl) ho ha hc.1 (hc.lift hcl) ?_
 rintro _ _ ⟨rfl,rfl⟩
 rw [hv,hH];exact h
theorem wO {o:AOper} {l:List AOper} {f:FuncId} {xs:List Opd} {args:List AV} {R:AV→zz→Prop} {Hl:zz} (L:List Nat) (hg:o.guard=none) (ho:o.op=.call f xs) (hen:yr E.P f) (hc:ACall E f args Hl R) (hnd:L.Nodup) (hlt:∀ x∈L,x<H.length)
 (hHl:Hl=L.map fun x=>(H.getD x .dead).sub (ya L)) (hargs:args=xs.map fun x=>(x.ev E.G F).sub (ya L))
 (h:∀ v0 H',R v0 H'→L.length≤H'.length→Holds E n N Q (.ops l) k (F.set o.dst (v0.sub (vu L H.length))) (yX H L H')):Holds E n N Q (.ops (o :: l)) k F H:=by
 refine xL (by rw [hg];rfl) ho rfl hen (ACall.frame hc (H:=H) (args':=xs.map (·.ev E.G F)) L hnd hlt hHl (by rw [hargs,List.map_map];rfl)) ?_
 rintro _ _ ⟨v0,H',h1,h2,rfl,rfl⟩
 exact h v0 H' h1 h2
theorem AWP.entEnd {ac:ACode} {Q:zL→AFr→zz→Prop} (h:AWP E n N ac F H (fun e F' H'=>∃ F2 H2,Ent E n N F' H' F2 H2∧Q e F2 H2)):AWP E n N ac F H Q:=by
 intro c hc K w tmps T rs k cs h1 h2 h3 h4
 obtain ⟨e,F',H',K',w',tmps',nw,todo,⟨F2,H2,he,hq⟩,a1,a2,a3,a4,a5,a6,a7⟩:=h c hc K w tmps T rs k cs h1 h2 h3 h4
 obtain ⟨K2,b1,b2,b3⟩:=he K' w' tmps' a1 a2 a3.len
 exact ⟨e,F2,H2,K2,w',tmps',nw,todo,hq,b1,b2,a3.trans b3,a4.ev b3,a5,a6,a7⟩
def OQ (E:Env) (n N:Nat) (rvs:List RV) (R:AV→zz→Prop) (e:zL) (F':AFr) (H':zz):Prop :=
 match e with
 | .exit _=>False
 | _=>∃ F2 H2 vs,Ent E n N F' H' F2 H2∧wx F2 H2 rvs=some vs∧R (xD vs) H2
theorem rcall_body {E:Env} {f:FuncId} {fn:Func} {ac:ACode} {args:List AV} {H:zz} {R:AV→zz→Prop} {n:Nat} {rvs:List RV} (hf:E.P.funcs[f]? = some fn) (hb:fn.body.map (yj E.P n)=some ac) (hnt:fn.ntmps=n) (hrv:fn.results.toList.map (x9 E.P)=rvs.map some) (hn:Nat.ble args.length n=true)
 (h:Holds E n H.length (OQ E n H.length rvs R) (.code ac) [] (xF 0 args) H):ACall E f args H R:=by
 subst hnt
 refine acall_body hf hb hrv (Nat.le_of_ble_eq_true hn) (AWP.entEnd (AWP.mono h fun e F' H' h=>?_))
 cases e with
 | exit i=>exact h.elim
 | normal=>obtain ⟨F2,H2,vs,a,b,c⟩:=h;exact ⟨F2,H2,a,vs,b,c⟩
 | ret=>obtain ⟨F2,H2,vs,a,b,c⟩:=h;exact ⟨F2,H2,a,vs,b,c⟩
theorem enters_of {P:Program} {f:FuncId} {fn:Func} {n:Nat} {ac:ACode} (hf:P.funcs[f]? = some fn) (hnm:(fn.name == "runtime.NumGoroutine")=false) (hb:fn.body.map (yj P n)=some ac):yr P f :=
 enters_body hf hnm (by cases hbb:fn.body with | none=>rw [hbb] at hb;cases hb | some b=>rfl)
theorem ocall_body {E:Env} {f:FuncId} {fn:Func} {ac:ACode} {args:List AV} {v:AV} {H0:zz} {n:Nat} {rvs:List RV} (hf:E.P.funcs[f]? = some fn) (hnm:(fn.name == "runtime.NumGoroutine")=false) (hb:fn.body.map (yj E.P n)=some ac) (hnt:fn.ntmps=n) (hrv:fn.results.toList.map (x9 E.P)=rvs.map some) (hn:Nat.ble args.length n=true)
 (h:Holds E n 0 (OQ E n 0 rvs (fun v' H'=>v'=v∧H'=H0)) (.code ac) [] (xF 0 args) []):OCall E f args v H0 :=
 ⟨enters_of hf hnm hb,rcall_body hf hb hnt hrv hn h⟩
theorem xi {rvs:List RV} {R:AV→zz→Prop} {F F2:AFr} {H H2:zz} {vs:List AV} (he:Ent E n N F H F2 H2) (h1:wx F2 H2 rvs=some vs) (h2:R (xD vs) H2):Holds E n N (OQ E n N rvs R) (.out .ret) [] F H:=⟨F2,H2,vs,he,h1,h2⟩
theorem o_norm {rvs:List RV} {R:AV→zz→Prop} {F F2:AFr} {H H2:zz} {vs:List AV} (he:Ent E n N F H F2 H2) (h1:wx F2 H2 rvs=some vs) (h2:R (xD vs) H2):Holds E n N (OQ E n N rvs R) (.out .normal) [] F H:=⟨F2,H2,vs,he,h1,h2⟩
end
end Go.Am
end
section
namespace Go.Am
def QD (E:Env) (H:zz) (ops:List AOper) (F:AFr) (P:AFr→Prop):Prop:=∀ F0,Weak F F0→∃ F1 Fs,QR E H ops F0 F1∧Weak Fs F1∧P Fs
section
variable {E:Env} {n N:Nat} {Q:zL→AFr→zz→Prop} {k:List KI} {F:AFr} {H:zz} {P:AFr→Prop}
theorem QD.op {o:AOper} {l:List AOper} {v:AV} (hg:zK F o.guard=some true) (hd:tE F o=true) (_hq:ye o.op=true) (he:zN E.G o.op F H=some (true,v,H)) (h:QD E H l (F.set o.dst v) P):QD E H (o :: l) F P:=by
 intro F0 hw
 obtain ⟨F1,Fs,h1,h2,h3⟩:=h (F0.set o.dst v) (hw.set _ _)
 refine ⟨F1,Fs,.op ?_ ?_ h1,h2,h3⟩
 · cases hgd:o.guard with
   | none=>rfl
   | some p =>
    obtain ⟨d,b⟩:=p
    rw [hgd] at hg
    simp only [zK] at hg ⊢
    split at hg
    · rename_i t ht
      rw [hw.val (G:=E.G) (x:=.t d) ht |> fun h=>(show F0.get d=.val (.bool t) from h)];exact hg
    · cases hg
 · rw [y6 (hw.ev hd)] at he;exact he
theorem wantA_weak {F F0:AFr} {g:Option (Nat × Bool)} {b:Bool} (hw:Weak F F0) (h:zK F g=some b):zK F0 g=some b:=by
 cases g with
 | none=>exact h
 | some p =>
  obtain ⟨d,c⟩:=p
  simp only [zK] at h ⊢
  split at h
  · rename_i t ht
    rw [show F0.get d=.val (.bool t) from hw.val (G:=fun _=>.undef) (x:=.t d) ht];exact h
  · cases h
theorem QD.skip {o:AOper} {l:List AOper} (hg:zK F o.guard=some false) (h:QD E H l (F.set o.dst .undef) P):QD E H (o :: l) F P:=by
 intro F0 hw
 obtain ⟨F1,Fs,h1,h2,h3⟩:=h (F0.set o.dst .undef) (hw.set _ _)
 exact ⟨F1,Fs,.skip (wantA_weak hw hg) h1,h2,h3⟩
end
section
variable {E:Env} {H:zz} {P:AFr→Prop}
end
theorem yY {iLt:Int→Int→Bool} {lenA:List AV→Int} (e1:iLt=Wd.iLt) (e2:lenA=Wd.lenA) {i:Int} {es:List AV} (h:i<es.length):iLt i (lenA es)=true:=by subst e1 e2;exact decide_eq_true h
theorem yW {iLt:Int→Int→Bool} {lenA:List AV→Int} (e1:iLt=Wd.iLt) (e2:lenA=Wd.lenA) {i:Int} {es:List AV} (h:¬ i<es.length):iLt i (lenA es)=false:=by subst e1 e2;exact decide_eq_false h
theorem zP {α:Type} {atA:List AV→Int→AV} (e:atA=Wd.atA) {enc:α→AV} {l d r:List α} {c:α} {es:List AV} {i:Int} (hes:mapE enc l=es) (hl:l=d++c :: r) (hi:i=d.length):atA es i=enc c:=by
 subst e hes hi hl
 rw [zk];simp [Wd.atA]
theorem zJ {iAdd:IntKind→Int→Int→Int} (e:iAdd=Wd.iAdd) {i:Int} {n:Nat} (hi:i=n) (hn:n<1152921504606846976):iAdd .i64 i 1=((n+1:Nat):Int):=by
 subst e hi
 show IntKind.i64.wrap _=_
 rw [wrap64 (by omega) (by omega)];rfl
theorem zu {α:Type} {l d r:List α} (h:l=d++r):l.length=d.length+r.length:=by rw [h,List.length_append]
theorem ww {iAdd:IntKind→Int→Int→Int} (e:iAdd=Wd.iAdd) {a b:Int} (h1:-9223372036854775808≤a+b) (h2:a+b<9223372036854775808):iAdd .i64 a b=a+b:=by
 subst e;exact wrap64 h1 h2
theorem sub_w {iSub:IntKind→Int→Int→Int} (e:iSub=Wd.iSub) {a b:Int} (h1:-9223372036854775808≤a - b) (h2:a - b<9223372036854775808):iSub .i64 a b=a - b:=by
 subst e;exact wrap64 h1 h2
theorem zi {E:Env} {n N:Nat} {Q:zL→AFr→zz→Prop} {k:List KI} {F:AFr} {H:zz} {o:AOper} {l:List AOper} {d:Nat} {b:Bool} (hg:o.guard=some (d,b)) (hd:F.get d=.val (.bool (!b))) (h:Holds E n N Q (.ops l) k (F.set o.dst .undef) H):Holds E n N Q (.ops (o :: l)) k F H :=
 aops_skip (by rw [hg];simp only [zK,hd];cases b<;>rfl) h
end Go.Am
end
section
namespace Go.Am
inductive Kd where
 | free
 | look (b:Nat) (ob:Option AObj)
 | eff
def wD (G:Nat→AV) (o:AOp) (F:AFr):Option Nat :=
 match o with
 | .ld _ _ x=>match x.ev G F with
  | .ptr b _=>some b
  | .eptr b _ _ _=>some b
  | _=>none
 | _=>none
theorem evalBin_free {op:BinOp} {x y:AV} {H H' H1:zz} {c:Bool} {v:AV} (h:xH op x y H=some (c,v,H1)):xH op x y H'=some (c,v,H'):=by
 unfold xH at h ⊢
 split at h
 · split at h
   · rename_i hk
     rw [if_pos hk]
     cases op<;>simp [ans,tA] at h ⊢<;>first | exact h.1 | exact ⟨h.1,h.2.1⟩
   · cases h
 · cases op<;>simp [ans] at h ⊢<;>first | exact h.1 | exact ⟨h.1,h.2.1⟩
 · cases h
theorem free1 {G:Nat→AV} {o:AOp} {F:AFr} {H H' H1:zz} {c:Bool} {v:AV} (hq:ye o=true) (hr:wD G o F=none) (h:zt G o F H=some (c,v,H1)):zt G o F H'=some (c,v,H'):=by
 cases o with
 | bin op x y=>exact evalBin_free h
 | ld k agg x =>
  simp only [zt,wD] at h hr ⊢
  split at h
  · rename_i cs hx
    split at h
    · rename_i u hu
      simp only [ans,Option.some.injEq,Prod.mk.injEq] at h ⊢
      exact ⟨h.1,h.2.1,trivial⟩
    · cases h
  · rename_i hx;rw [hx] at hr;cases hr
  · rename_i hx;rw [hx] at hr;cases hr
  · cases h
 | _=>first | (cases hq;done) | (simp only [zt,ans] at h ⊢;(repeat' split at h)<;>first | (simp only [Option.some.injEq,Prod.mk.injEq] at h;simp_all;done) | (simp_all;done) | cases h)
theorem free2 {G:Nat→AV} {o:AOp} {F:AFr} {H H' H1:zz} {c:Bool} {v:AV} (hq:ye o=true) (h:zh G o F H=some (c,v,H1)):zh G o F H'=some (c,v,H'):=by
 cases o with
 | bin op x y =>
  cases op with
  | shr =>
   simp only [zh,tV] at h ⊢
   split at h
   · simp only [Option.some.injEq,Prod.mk.injEq,and_true] at h ⊢;exact ⟨h.1,h.2.1⟩
   · cases h
  | _=>simp [zh] at h
 | _=>first | (cases hq;done) | (simp only [zh,ans] at h ⊢;(repeat' split at h)<;>first | (simp only [Option.some.injEq,Prod.mk.injEq] at h;simp_all;done) | (simp_all;done) | cases h)
theorem none1 {G:Nat→AV} {o:AOp} {F:AFr} {H H':zz} (hq:ye o=true) (hr:wD G o F=none) (h:zt G o F H=none):zt G o F H'=none:=by
 cases h':zt G o F H' with
 | none=>rfl
 | some r=>obtain ⟨c,v,H1⟩:=r;rw [free1 hq hr h'] at h;cases h
theorem free_any {G:Nat→AV} {o:AOp} {F:AFr} {H H1:zz} {c:Bool} {v:AV} (hq:ye o=true) (hr:wD G o F=none) (h:zN G o F H=some (c,v,H1)) (H':zz):zN G o F H'=some (c,v,H'):=by
 unfold zN at h ⊢
 cases h1:zt G o F H with
 | some r =>
  rw [h1] at h
  dsimp only at h
  cases h
  rw [free1 (H':=H') hq hr h1]
 | none =>
  rw [h1] at h
  rw [none1 (H':=H') hq hr h1]
  exact free2 hq h
theorem look_any {G:Nat→AV} {o:AOp} {F:AFr} {H H1 H':zz} {c:Bool} {v:AV} {b:Nat} (hr:wD G o F=some b) (h:zN G o F H=some (c,v,H1)) (hb:H'[b]? = H[b]?):zN G o F H'=some (c,v,H'):=by
 cases o with
 | ld k agg x =>
  have h2:∀ H,zh G (.ld k agg x) F H=none:=fun _=>rfl
  simp only [wD] at hr
  split at hr
  · rename_i b' off hx
    cases hr
    simp only [zN,h2,zt,hx,cellsOf,hb] at h ⊢
    generalize H[b]? = ob at h ⊢
    cases ob with
    | none=>simp at h
    | some o =>
     cases o with
     | cells cs =>
      dsimp only at h ⊢
      cases ht:wp cs off k agg with
      | none=>rw [ht] at h;simp at h
      | some u=>rw [ht] at h;simp [ans] at h ⊢;exact ⟨h.1,h.2.1⟩
     | _=>simp at h
  · rename_i b' k' i j hx
    cases hr
    simp only [zN,h2,zt,hx,yK,hb] at h ⊢
    generalize H[b]? = ob at h ⊢
    cases ob with
    | none=>simp at h
    | some o =>
     cases o with
     | arr k2 es =>
      dsimp only at h ⊢
      cases hk:Nat.beq k' k2 with
      | false=>rw [hk] at h;simp at h
      | true =>
       rw [hk] at h
       simp only [if_true] at h ⊢
       cases ht:wp (es.getD i AV.undef).cells j k agg with
       | none=>rw [ht] at h;simp at h
       | some u=>rw [ht] at h;simp at h ⊢;exact ⟨h.1,h.2.1⟩
     | _=>simp at h
  · cases hr
 | _=>cases hr
inductive TRn (E:Env):List AOper→AFr→zz→List AV→List Kd→List zz→AFr→zz→Prop
 | nil (F H):TRn E [] F H [] [] [] F H
 | free {o l F H v V ks Hs F' H'} (hg:zK F o.guard=some true) (hq:ye o.op=true) (hr:wD E.G o.op F=none) (he:zN E.G o.op F H=some (true,v,H)) (r:TRn E l (F.set o.dst v) H V ks Hs F' H'):TRn E (o :: l) F H (v :: V) (.free :: ks) Hs F' H'
 | look {o l F H v V ks Hs F' H' b} (hg:zK F o.guard=some true) (hr:wD E.G o.op F=some b) (he:zN E.G o.op F H=some (true,v,H)) (r:TRn E l (F.set o.dst v) H V ks Hs F' H'):TRn E (o :: l) F H (v :: V) (.look b H[b]? :: ks) Hs F' H'
 | skip {o l F H V ks Hs F' H'} (hg:zK F o.guard=some false) (r:TRn E l (F.set o.dst .undef) H V ks Hs F' H'):TRn E (o :: l) F H (.undef :: V) (.free :: ks) Hs F' H'
 | skipq {o l F H V ks Hs F' H'} (hg:tY F o.guard) (r:TRn E l (F.set o.dst (skV o)) H V ks Hs F' H'):TRn E (o :: l) F H (skV o :: V) (.free :: ks) Hs F' H'
 | pcall {o l F H v V ks Hs F' H'} (f:FuncId) (xs:List Opd) (args:List AV) (hg:zK F o.guard=some true) (ho:o.op=.call f xs) (ha:xs.map (·.ev E.G F)=args) (hc:PCall E f args v) (hcl:AV.closedL args=true) (r:TRn E l (F.set o.dst v) H V ks Hs F' H'):TRn E (o :: l) F H (v :: V) (.free :: ks) Hs F' H'
 | bslf {o l F H V ks Hs F' H'} (kk:Nat) (xs:List Opd) (es:List AV) (hg:zK F o.guard=some true) (ho:o.op=.bslice kk xs) (ha:xs.map (·.ev E.G F)=es) (hf:wI kk es=true) (r:TRn E l (F.set o.dst (.isl kk es)) H V ks Hs F' H'):TRn E (o :: l) F H (.isl kk es :: V) (.free :: ks) Hs F' H'
 | eff {o l F H v H1 V ks Hs F' H'} (hg:zK F o.guard=some true) (he:zN E.G o.op F H=some (true,v,H1)) (r:TRn E l (F.set o.dst v) H1 V ks Hs F' H'):TRn E (o :: l) F H (v :: V) (.eff :: ks) (H1 :: Hs) F' H'
 | ecall {o l F H v H1 V ks Hs F' H'} (f:FuncId) (xs:List Opd) (args:List AV) (hg:zK F o.guard=some true) (ho:o.op=.call f xs) (ha:xs.map (·.ev E.G F)=args) (hen:yr E.P f) (hc:ACall E f args H fun v' H''=>v'=v∧H''=H1) (r:TRn E l (F.set o.dst v) H1 V ks Hs F' H'):TRn E (o :: l) F H (v :: V) (.eff :: ks) (H1 :: Hs) F' H'
theorem TRn.len {E:Env} {l:List AOper} {F F':AFr} {H H':zz} {V:List AV} {ks:List Kd} {Hs:List zz} (h:TRn E l F H V ks Hs F' H'):V.length=l.length∧F'=wJ F l V:=by
 induction h with
 | nil=>exact ⟨rfl,rfl⟩
 | _=>rename_i ih;exact ⟨by simp [ih.1],by simp only [wJ];exact ih.2⟩
theorem TRn.get {E:Env} {l:List AOper} {F F':AFr} {H H':zz} {V:List AV} {ks:List Kd} {Hs:List zz} (h:TRn E l F H V ks Hs F' H') (t:Nat) (hd:∀ o∈l,o.dst≠some t):F'.get t=F.get t:=by
 rw [h.len.2,wX l V F t (fun i o ho=>hd o (List.mem_of_getElem? ho))]
def zM : Nat→List Kd→List Nat
 | _,[]=>[]
 | i,.eff :: r=>i :: zM (i+1) r
 | i,_ :: r=>zM (i+1) r
theorem xU : ∀ {ks:List Kd} {i x:Nat},x∈zM i ks→i≤x
 | [],i,x,h=>by cases h
 | .eff :: r,i,x,h=>by
  rcases List.mem_cons.1 h with rfl | h
  · exact Nat.le_refl _
  · have:=xU h;omega
 | .free :: r,i,x,h=>by have:=xU (ks:=r) h;omega
 | .look b ob :: r,i,x,h=>by have:=xU (ks:=r) h;omega
theorem vE : ∀ {ks:List Kd} {i x:Nat},x∈zM i ks→x<i+ks.length
 | [],i,x,h=>by cases h
 | .eff :: r,i,x,h=>by
  rcases List.mem_cons.1 h with rfl | h
  · simp
  · have:=vE h;simp;omega
 | .free :: r,i,x,h=>by have:=vE (ks:=r) h;simp;omega
 | .look b ob :: r,i,x,h=>by have:=vE (ks:=r) h;simp;omega
theorem wo : ∀ (ks:List Kd) (i:Nat),(zM i ks).Nodup
 | [],i=>List.nodup_nil
 | .eff :: r,i=>List.nodup_cons.2 ⟨fun h=>by have:=xU h;omega,wo r _⟩
 | .free :: r,i=>wo r _
 | .look b ob :: r,i=>wo r _
def zZ (B chain:List Nat) (i b:Nat) (ob:Option AObj):List zz→Nat→Prop
 | [],_=>True
 | H :: r,j=>(tx B chain i j=true→H[b]? = ob)∧zZ B chain i b ob r (j+1)
theorem lookAll_spec {B chain:List Nat} {i b:Nat} {ob:Option AObj}:∀ {Hs:List zz} {j:Nat},zZ B chain i b ob Hs j→∀ (m:Nat) H,Hs[m]? = some H→tx B chain i (j+m)=true→H[b]? = ob
 | [],j,h,m,H,hm,_=>by simp at hm
 | H0 :: r,j,h,m,H,hm,hp=>by
  cases m with
  | zero=>simp at hm;subst hm;exact h.1 hp
  | succ m=>exact lookAll_spec h.2 m H (by simpa using hm) (by rwa [show j+1+m=j+(m+1) by omega])
def za (B chain:List Nat) (Hs:List zz):Nat→List Kd→Prop
 | _,[]=>True
 | i,.look b ob :: r=>zZ B chain i b ob Hs 0∧za B chain Hs (i+1) r
 | i,_ :: r=>za B chain Hs (i+1) r
theorem TRn.dop {E:Env} {B:List Nat} {l:List AOper} {F F':AFr} {H H':zz} {V:List AV} {ks:List Kd} {Hs:List zz} (h:TRn E l F H V ks Hs F' H') :
 ∀ (base:Nat) (pre:List Nat) (preH:List zz),preH.length=pre.length→(∀ x∈pre,x<base)→za B (pre++zM base ks) (preH++H :: Hs) base ks →
 (∀ (i:Nat) o,l[i]? = some o→∀ t∈o.looks,∀ (k:Nat) o',i≤k→l[k]? = some o'→o'.dst≠some t) →
 ∀ (i:Nat) o v,l[i]? = some o→V[i]? = some v→DOp E B (pre++zM base ks) F' (preH++H :: Hs) (base+i) o v:=by
 induction h with
 | nil=>intro base pre preH _ _ _ _ i o v ho;simp at ho
 | @free o l F H v V ks Hs F' H' hg hq hr he r ih =>
  intro base pre preH hlen hpre hlk hl i o' v' ho' hv'
  have hlks:∀ t∈o.looks,F.get t=F'.get t:=fun t ht=>by
   rw [TRn.get r t (fun o' ho'=>by obtain ⟨k,hk⟩:=List.getElem?_of_mem ho';exact hl 0 o rfl t ht (k+1) o' (by omega) (by simpa using hk)),AFr.get_set,if_neg (hl 0 o rfl t ht 0 o (Nat.le_refl _) rfl)]
  cases i with
  | zero =>
   simp at ho' hv';subst ho' hv'
   refine .free (by rw [← yL hlks];exact hg) (fun H2=>⟨true,?_,rfl⟩) ?_
   · rw [← y6 (xC hlks)];exact free_any hq hr he H2
   · rw [Bool.eq_false_iff];intro hc
     rw [List.contains_iff_mem] at hc
     rcases List.mem_append.1 hc with hc | hc
     · have:=hpre _ hc;omega
     · have:=xU (ks:=ks) (show base+0∈zM (base+1) ks from hc);omega
  | succ i =>
   have:=ih (base+1) pre preH hlen (fun x hx=>Nat.lt_succ_of_lt (hpre x hx)) hlk (fun i o'' ho t ht k o3 hk ho3=>hl (i+1) o'' (by simpa using ho) t ht (k+1) o3 (by omega) (by simpa using ho3)) i o' v' (by simpa using ho') (by simpa using hv')
   rwa [show base+1+i=base+(i+1) by omega] at this
 | @look o l F H v V ks Hs F' H' b hg hr he r ih =>
  intro base pre preH hlen hpre hlk hl i o' v' ho' hv'
  have hlks:∀ t∈o.looks,F.get t=F'.get t:=fun t ht=>by
   rw [TRn.get r t (fun o' ho'=>by obtain ⟨k,hk⟩:=List.getElem?_of_mem ho';exact hl 0 o rfl t ht (k+1) o' (by omega) (by simpa using hk)),AFr.get_set,if_neg (hl 0 o rfl t ht 0 o (Nat.le_refl _) rfl)]
  cases i with
  | zero =>
   simp at ho' hv';subst ho' hv'
   refine .look (by rw [← yL hlks];exact hg) (fun j H2 hj hp=>⟨true,?_,rfl⟩) ?_
   · rw [← y6 (xC hlks)]
     exact look_any hr he (lookAll_spec hlk.1 j H2 hj (by simpa using hp))
   · rw [Bool.eq_false_iff];intro hc
     rw [List.contains_iff_mem] at hc
     rcases List.mem_append.1 hc with hc | hc
     · have:=hpre _ hc;omega
     · have:=xU (ks:=ks) (show base+0∈zM (base+1) ks from hc);omega
  | succ i =>
   have:=ih (base+1) pre preH hlen (fun x hx=>Nat.lt_succ_of_lt (hpre x hx)) hlk.2 (fun i o'' ho t ht k o3 hk ho3=>hl (i+1) o'' (by simpa using ho) t ht (k+1) o3 (by omega) (by simpa using ho3)) i o' v' (by simpa using ho') (by simpa using hv')
   rwa [show base+1+i=base+(i+1) by omega] at this
 | @skip o l F H V ks Hs F' H' hg r ih =>
  intro base pre preH hlen hpre hlk hl i o' v' ho' hv'
  have hlks:∀ t∈o.looks,F.get t=F'.get t:=fun t ht=>by
   rw [TRn.get r t (fun o' ho'=>by obtain ⟨k,hk⟩:=List.getElem?_of_mem ho';exact hl 0 o rfl t ht (k+1) o' (by omega) (by simpa using hk)),AFr.get_set,if_neg (hl 0 o rfl t ht 0 o (Nat.le_refl _) rfl)]
  cases i with
  | zero =>
   simp at ho' hv';subst ho' hv'
   refine .skip (.inl (by rw [← yL hlks];exact hg)) (.inl rfl) ?_
   rw [Bool.eq_false_iff];intro hc
   rw [List.contains_iff_mem] at hc
   rcases List.mem_append.1 hc with hc | hc
   · have:=hpre _ hc;omega
   · have:=xU (ks:=ks) (show base+0∈zM (base+1) ks from hc);omega
  | succ i =>
   have:=ih (base+1) pre preH hlen (fun x hx=>Nat.lt_succ_of_lt (hpre x hx)) hlk (fun i o'' ho t ht k o3 hk ho3=>hl (i+1) o'' (by simpa using ho) t ht (k+1) o3 (by omega) (by simpa using ho3)) i o' v' (by simpa using ho') (by simpa using hv')
   rwa [show base+1+i=base+(i+1) by omega] at this
 | @skipq o l F H V ks Hs F' H' hg r ih =>
  intro base pre preH hlen hpre hlk hl i o' v' ho' hv'
  have hlks:∀ t∈o.looks,F.get t=F'.get t:=fun t ht=>by
   rw [TRn.get r t (fun o' ho'=>by obtain ⟨k,hk⟩:=List.getElem?_of_mem ho';exact hl 0 o rfl t ht (k+1) o' (by omega) (by simpa using hk)),AFr.get_set,if_neg (hl 0 o rfl t ht 0 o (Nat.le_refl _) rfl)]
  cases i with
  | zero =>
   simp at ho' hv';subst ho' hv'
   refine .skip (looks_skip (fun t ht=>(hlks t ht).symm) hg) (.inr rfl) ?_
   rw [Bool.eq_false_iff];intro hc
   rw [List.contains_iff_mem] at hc
   rcases List.mem_append.1 hc with hc | hc
   · have:=hpre _ hc;omega
   · have:=xU (ks:=ks) (show base+0∈zM (base+1) ks from hc);omega
  | succ i =>
   have:=ih (base+1) pre preH hlen (fun x hx=>Nat.lt_succ_of_lt (hpre x hx)) hlk (fun i o'' ho t ht k o3 hk ho3=>hl (i+1) o'' (by simpa using ho) t ht (k+1) o3 (by omega) (by simpa using ho3)) i o' v' (by simpa using ho') (by simpa using hv')
   rwa [show base+1+i=base+(i+1) by omega] at this
 | @pcall o l F H v V ks Hs F' H' f xs args hg ho ha hc hcl r ih =>
  intro base pre preH hlen hpre hlk hl i o' v' ho' hv'
  have hlks:∀ t∈o.looks,F.get t=F'.get t:=fun t ht=>by
   rw [TRn.get r t (fun o' ho'=>by obtain ⟨k,hk⟩:=List.getElem?_of_mem ho';exact hl 0 o rfl t ht (k+1) o' (by omega) (by simpa using hk)),AFr.get_set,if_neg (hl 0 o rfl t ht 0 o (Nat.le_refl _) rfl)]
  cases i with
  | zero =>
   simp at ho' hv';subst ho' hv'
   refine .call f xs args (by rw [← yL hlks];exact hg) ho ?_ hc.1 (fun j H2 hj hp=>hc.lift hcl) ?_
   · rw [← ha];exact (List.map_congr_left fun x hx=>xC hlks x (by rw [ho];exact hx)).symm
   · rw [Bool.eq_false_iff];intro hc
     rw [List.contains_iff_mem] at hc
     rcases List.mem_append.1 hc with hc | hc
     · have:=hpre _ hc;omega
     · have:=xU (ks:=ks) (show base+0∈zM (base+1) ks from hc);omega
  | succ i =>
   have:=ih (base+1) pre preH hlen (fun x hx=>Nat.lt_succ_of_lt (hpre x hx)) hlk (fun i o'' ho t ht k o3 hk ho3=>hl (i+1) o'' (by simpa using ho) t ht (k+1) o3 (by omega) (by simpa using ho3)) i o' v' (by simpa using ho') (by simpa using hv')
   rwa [show base+1+i=base+(i+1) by omega] at this
 | @bslf o l F H V ks Hs F' H' kk xs es hg ho ha hf r ih =>
  intro base pre preH hlen hpre hlk hl i o' v' ho' hv'
  have hlks:∀ t∈o.looks,F.get t=F'.get t:=fun t ht=>by
   rw [TRn.get r t (fun o' ho'=>by obtain ⟨k,hk⟩:=List.getElem?_of_mem ho';exact hl 0 o rfl t ht (k+1) o' (by omega) (by simpa using hk)),AFr.get_set,if_neg (hl 0 o rfl t ht 0 o (Nat.le_refl _) rfl)]
  cases i with
  | zero =>
   simp at ho' hv';subst ho' hv'
   refine .bslf kk xs es (by rw [← yL hlks];exact hg) ho ?_ hf rfl ?_
   · rw [← ha];exact (List.map_congr_left fun x hx=>xC hlks x (by rw [ho];exact hx)).symm
   · rw [Bool.eq_false_iff];intro hc
     rw [List.contains_iff_mem] at hc
     rcases List.mem_append.1 hc with hc | hc
     · have:=hpre _ hc;omega
     · have:=xU (ks:=ks) (show base+0∈zM (base+1) ks from hc);omega
  | succ i =>
   have:=ih (base+1) pre preH hlen (fun x hx=>Nat.lt_succ_of_lt (hpre x hx)) hlk (fun i o'' ho t ht k o3 hk ho3=>hl (i+1) o'' (by simpa using ho) t ht (k+1) o3 (by omega) (by simpa using ho3)) i o' v' (by simpa using ho') (by simpa using hv')
   rwa [show base+1+i=base+(i+1) by omega] at this
 | @eff o l F H v H1 V ks Hs F' H' hg he r ih =>
  intro base pre preH hlen hpre hlk hl i o' v' ho' hv'
  have hlks:∀ t∈o.looks,F.get t=F'.get t:=fun t ht=>by
   rw [TRn.get r t (fun o' ho'=>by obtain ⟨k,hk⟩:=List.getElem?_of_mem ho';exact hl 0 o rfl t ht (k+1) o' (by omega) (by simpa using hk)),AFr.get_set,if_neg (hl 0 o rfl t ht 0 o (Nat.le_refl _) rfl)]
  have e1:pre++zM base (.eff :: ks)=(pre++[base])++zM (base+1) ks:=by simp [zM]
  have e2:preH++H :: H1 :: Hs=(preH++[H])++H1 :: Hs:=by simp
  cases i with
  | zero =>
   simp at ho' hv';subst ho' hv'
   refine .eff pre.length H H1 true (by rw [← yL hlks];exact hg) (by simp [zM]) (by rw [← hlen];simp) (by rw [← hlen];simp) (by rw [← y6 (xC hlks)];exact he) rfl
  | succ i =>
   have:=ih (base+1) (pre++[base]) (preH++[H]) (by simp [hlen]) (fun x hx=>by
    rcases List.mem_append.1 hx with hx | hx
    · exact Nat.lt_succ_of_lt (hpre x hx)
    · simp at hx;omega) (by rw [← e1,← e2];exact hlk) (fun i o'' ho t ht k o3 hk ho3=>hl (i+1) o'' (by simpa using ho) t ht (k+1) o3 (by omega) (by simpa using ho3)) i o' v' (by simpa using ho') (by simpa using hv')
   rw [← e1,← e2] at this
   rwa [show base+1+i=base+(i+1) by omega] at this
 | @ecall o l F H v H1 V ks Hs F' H' f xs args hg ho ha hen hc r ih =>
  intro base pre preH hlen hpre hlk hl i o' v' ho' hv'
  have hlks:∀ t∈o.looks,F.get t=F'.get t:=fun t ht=>by
   rw [TRn.get r t (fun o' ho'=>by obtain ⟨k,hk⟩:=List.getElem?_of_mem ho';exact hl 0 o rfl t ht (k+1) o' (by omega) (by simpa using hk)),AFr.get_set,if_neg (hl 0 o rfl t ht 0 o (Nat.le_refl _) rfl)]
  have e1:pre++zM base (.eff :: ks)=(pre++[base])++zM (base+1) ks:=by simp [zM]
  have e2:preH++H :: H1 :: Hs=(preH++[H])++H1 :: Hs:=by simp
  cases i with
  | zero =>
   simp at ho' hv';subst ho' hv'
   refine .ecall pre.length H H1 f xs args (by rw [← yL hlks];exact hg) (by simp [zM]) (by rw [← hlen];simp) (by rw [← hlen];simp) ho ?_ hen hc
   rw [← ha];exact (List.map_congr_left fun x hx=>xC hlks x (by rw [ho];exact hx)).symm
  | succ i =>
   have:=ih (base+1) (pre++[base]) (preH++[H]) (by simp [hlen]) (fun x hx=>by
    rcases List.mem_append.1 hx with hx | hx
    · exact Nat.lt_succ_of_lt (hpre x hx)
    · simp at hx;omega) (by rw [← e1,← e2];exact hlk) (fun i o'' ho t ht k o3 hk ho3=>hl (i+1) o'' (by simpa using ho) t ht (k+1) o3 (by omega) (by simpa using ho3)) i o' v' (by simpa using ho') (by simpa using hv')
   rw [← e1,← e2] at this
   rwa [show base+1+i=base+(i+1) by omega] at this
theorem TRn.kinds3 {E:Env} {l:List AOper} {F F':AFr} {H H':zz} {V:List AV} {ks:List Kd} {Hs:List zz} (h:TRn E l F H V ks Hs F' H'):ks.length=l.length∧(∀ i,Hs.length=(zM i ks).length)∧(H :: Hs)[Hs.length]? = some H':=by
 induction h with
 | nil=>exact ⟨rfl,fun _=>rfl,rfl⟩
 | eff hg he r ih=>exact ⟨by simp [ih.1],fun i=>by simp only [zM,List.length_cons];rw [ih.2.1 (i+1)],by simpa using ih.2.2⟩
 | ecall f xs args hg ho ha hen hc r ih=>exact ⟨by simp [ih.1],fun i=>by simp only [zM,List.length_cons];rw [ih.2.1 (i+1)],by simpa using ih.2.2⟩
 | _=>rename_i ih;exact ⟨by simp [ih.1],fun i=>by simp only [zM];exact ih.2.1 (i+1),ih.2.2⟩
def TR (E:Env) (l:List AOper) (F:AFr) (H:zz) (K:List Kd→List zz→AFr→zz→Prop):Prop:=∃ V ks Hs F' H',TRn E l F H V ks Hs F' H'∧K ks Hs F' H'
section
variable {E:Env} {n N:Nat} {Q:zL→AFr→zz→Prop} {k:List KI} {F:AFr} {H:zz} {K:List Kd→List zz→AFr→zz→Prop}
theorem tr_draw {ops:List AOper} (hm:E.P.follows .mixedOrders=true) (hwf:vI ops (vR ops [])=true) (h:TR E ops F H (fun ks Hs F' H'=>xv (vR ops []) (zM 0 ks).length (zM 0 ks)=[zM 0 ks]∧za (vR ops []) (zM 0 ks) (H :: Hs) 0 ks∧Holds E n N Q (.out .normal) k F' H')):Holds E n N Q (.code (.draw ops)) k F H:=by
 obtain ⟨V,ks,Hs,F',H',ht,h1,h2,h3⟩:=h
 have wf:=wfDraw_spec hwf
 have hB:∀ i k,((vR ops []).getD i 0).testBit k=true→Anc ops k i:=by
  have:=v6 ops [] [] rfl (fun i k hk=>by simp at hk)
  simpa using this
 obtain ⟨m1,m2,m3⟩:=ht.kinds3
 refine awp_draw hm (zM 0 ks) hwf ?_ (wo _ _) fun chain hch=>?_
 · rw [List.all_eq_true];intro x hx
   have:=vE hx
   exact Nat.ble_eq_true_of_le (by omega)
 · rw [h1,List.mem_singleton] at hch
   subst hch
   refine ⟨V,H :: Hs,H',ht.len.1,by simp [m2 0],rfl,fun i o v ho hv=>?_,?_,?_⟩
   · rw [← ht.len.2]
     have:=ht.dop (B:=vR ops []) 0 [] [] rfl (fun x hx=>by cases hx) h2 (fun i o ho t ht k o' hik hk hd=>by
      have:=(hB i k (wf.look i k o o' t ho hk ht hd)).lt wf
      omega) i o v ho hv
     simpa using this
   · rw [← m2 0];exact m3
   · rw [← ht.len.2];exact h3
theorem zW (h:K [] [] F H):TR E [] F H K:=⟨[],[],[],F,H,.nil _ _,h⟩
theorem tr_free {o:AOper} {l:List AOper} {v:AV} (hg:zK F o.guard=some true) (hq:ye o.op=true) (hr:wD E.G o.op F=none) (he:zN E.G o.op F H=some (true,v,H)) (h:TR E l (F.set o.dst v) H (fun ks=>K (.free :: ks))):TR E (o :: l) F H K:=by
 obtain ⟨V,ks,Hs,F',H',a,b⟩:=h;exact ⟨_,_,_,_,_,.free hg hq hr he a,b⟩
theorem tr_look {o:AOper} {l:List AOper} {v:AV} {b:Nat} (hg:zK F o.guard=some true) (hr:wD E.G o.op F=some b) (he:zN E.G o.op F H=some (true,v,H)) (h:TR E l (F.set o.dst v) H (fun ks=>K (.look b H[b]? :: ks))):TR E (o :: l) F H K:=by
 obtain ⟨V,ks,Hs,F',H',a,b⟩:=h;exact ⟨_,_,_,_,_,.look hg hr he a,b⟩
theorem zy {o:AOper} {l:List AOper} (hg:tY F o.guard) (h:TR E l (F.set o.dst (skV o)) H (fun ks=>K (.free :: ks))):TR E (o :: l) F H K:=by
 obtain ⟨V,ks,Hs,F',H',a,b⟩:=h;exact ⟨_,_,_,_,_,.skipq hg a,b⟩
theorem tr_pcall {o:AOper} {l:List AOper} {f:FuncId} {xs:List Opd} {args:List AV} {v:AV} (hg:zK F o.guard=some true) (ho:o.op=.call f xs) (ha:xs.map (·.ev E.G F)=args) (hc:PCall E f args v) (hcl:AV.closedL args=true) (h:TR E l (F.set o.dst v) H (fun ks=>K (.free :: ks))):TR E (o :: l) F H K:=by
 obtain ⟨V,ks,Hs,F',H',a,b⟩:=h;exact ⟨_,_,_,_,_,.pcall f xs args hg ho ha hc hcl a,b⟩
theorem uC {o:AOper} {l:List AOper} {kk:Nat} {xs:List Opd} {es:List AV} (hg:zK F o.guard=some true) (ho:o.op=.bslice kk xs) (ha:xs.map (·.ev E.G F)=es) (hf:wI kk es=true) (h:TR E l (F.set o.dst (.isl kk es)) H (fun ks=>K (.free :: ks))):TR E (o :: l) F H K:=by
 obtain ⟨V,ks,Hs,F',H',a,b⟩:=h;exact ⟨_,_,_,_,_,.bslf kk xs es hg ho ha hf a,b⟩
theorem tr_eff {o:AOper} {l:List AOper} {v:AV} {H1:zz} (hg:zK F o.guard=some true) (he:zN E.G o.op F H=some (true,v,H1)) (h:TR E l (F.set o.dst v) H1 (fun ks Hs=>K (.eff :: ks) (H1 :: Hs))):TR E (o :: l) F H K:=by
 obtain ⟨V,ks,Hs,F',H',a,b⟩:=h;exact ⟨_,_,_,_,_,.eff hg he a,b⟩
end
def uN (X:y4) (G:Nat→AV):Nat→List AOper→AFr→zz→Cd × List AOper × AFr × zz × List Kd × List zz
 | 0,l,F,H=>(.tt,l,F,H,[],[])
 | _+1,[],F,H=>(.tt,[],F,H,[],[])
 | f+1,o :: l,F,H =>
  match o.guard with
  | none=>match opX X G o.op F H with
   | some (c,v,H1)=>cond (ye o.op)
    (match wD G o.op F with
    | none=>match uN X G f l (F.set o.dst v) H with
     | (c',r,F',H',ks,Hs)=>(wR c c',r,F',H',.free :: ks,Hs)
    | some b=>match uN X G f l (F.set o.dst v) H with
     | (c',r,F',H',ks,Hs)=>(wR c c',r,F',H',.look b H[b]? :: ks,Hs))
    (match uN X G f l (F.set o.dst v) H1 with
    | (c',r,F',H',ks,Hs)=>(wR c c',r,F',H',.eff :: ks,H1 :: Hs))
   | none=>(.tt,o :: l,F,H,[],[])
  | some _=>(.tt,o :: l,F,H,[],[])
theorem vb {E:Env} {X:y4} (hXs:X=std):∀ (f:Nat) (l:List AOper) (F:AFr) (H:zz) (K:List Kd→List zz→AFr→zz→Prop) {c:Cd} {rest:List AOper} {F':AFr} {H':zz} {ks:List Kd} {Hs:List zz},uN X E.G f l F H=(c,rest,F',H',ks,Hs)→c.ok →
 TR E rest F' H' (fun k2 H2=>K (ks++k2) (Hs++H2))→TR E l F H K
 | 0,l,F,H,K,c,rest,F',H',ks,Hs,hr,hc,h=>by simp only [uN] at hr;cases hr;exact h
 | f+1,[],F,H,K,c,rest,F',H',ks,Hs,hr,hc,h=>by simp only [uN] at hr;cases hr;exact h
 | f+1,o :: l,F,H,K,c,rest,F',H',ks,Hs,hr,hc,h=>by
  simp only [uN] at hr
  split at hr
  · rename_i hg
    have hw:zK F o.guard=some true:=by rw [hg];rfl
    split at hr
    · rename_i c0 v H1 hop
      cases hq:ye o.op with
      | true =>
       rw [hq,cond_true] at hr
       cases hrd:wD E.G o.op F with
       | none =>
        rw [hrd] at hr
        dsimp only at hr
        cases hx:uN X E.G f l (F.set o.dst v) H with
        | mk c' r =>
         obtain ⟨r1,r2,r3,r4,r5⟩:=r
         rw [hx] at hr
         simp only [Prod.mk.injEq] at hr
         obtain ⟨rfl,rfl,rfl,rfl,rfl,rfl⟩:=hr
         have hc:=yq hc
         have hop:=wM hXs hop hc.1
         have hH:=wd hq hop
         rw [hH] at hop
         exact tr_free hw hq hrd hop (vb hXs f l _ _ _ hx hc.2 h)
       | some b =>
        rw [hrd] at hr
        dsimp only at hr
        cases hx:uN X E.G f l (F.set o.dst v) H with
        | mk c' r =>
         obtain ⟨r1,r2,r3,r4,r5⟩:=r
         rw [hx] at hr
         simp only [Prod.mk.injEq] at hr
         obtain ⟨rfl,rfl,rfl,rfl,rfl,rfl⟩:=hr
         have hc:=yq hc
         have hop:=wM hXs hop hc.1
         have hH:=wd hq hop
         rw [hH] at hop
         exact tr_look hw hrd hop (vb hXs f l _ _ _ hx hc.2 h)
      | false =>
       rw [hq,cond_false] at hr
       cases hx:uN X E.G f l (F.set o.dst v) H1 with
       | mk c' r =>
        obtain ⟨r1,r2,r3,r4,r5⟩:=r
        rw [hx] at hr
        simp only [Prod.mk.injEq] at hr
        obtain ⟨rfl,rfl,rfl,rfl,rfl,rfl⟩:=hr
        have hc:=yq hc
        exact tr_eff hw (wM hXs hop hc.1) (vb hXs f l _ _ _ hx hc.2 h)
    · cases hr;exact h
  · cases hr;exact h
theorem tr_go {E:Env} {X:y4} (hXs:X=std) {l:List AOper} {F:AFr} {H:zz} {K:List Kd→List zz→AFr→zz→Prop} {c:Cd} {rest:List AOper} {F':AFr} {H':zz} {ks:List Kd} {Hs:List zz} (he:uN X E.G 1000 l F H=(c,rest,F',H',ks,Hs)) (hc:c.ok)
 (h:TR E rest F' H' (fun k2 H2=>K (ks++k2) (Hs++H2))):TR E l F H K:=vb hXs 1000 l F H K he hc h
theorem uA (f:Nat) {E:Env} {X:y4} (hXs:X=std) {l:List AOper} {F:AFr} {H:zz} {K:List Kd→List zz→AFr→zz→Prop} {c:Cd} {rest:List AOper} {F':AFr} {H':zz} {ks:List Kd} {Hs:List zz} (he:uN X E.G f l F H=(c,rest,F',H',ks,Hs)) (hc:c.ok)
 (h:TR E rest F' H' (fun k2 H2=>K (ks++k2) (Hs++H2))):TR E l F H K:=vb hXs f l F H K he hc h
end Go.Am
end
section
namespace Go.Am
section
variable {E:Env} {n N:Nat} {Q:zL→AFr→zz→Prop} {k:List KI} {F F':AFr} {H H' X:zz}
theorem xu {l:List AOper} (he:Ent E n N F H F' H') (h:Holds E n N Q (.ops l) k F' H'):Holds E n N Q (.ops l) k F H:=AOps.ent he h
theorem on_rfun {f:Opd} {ps:List Nat} {a b:ACode} {g:FuncId} {cs:List AV} (hf:f.ev E.G F=.fn g cs) (hen:yr E.P g)
 (h:ACall E g (.yld H.length :: cs) (H++[.loop F n ps a b .ready none]) (fun _ H1=>∃ st pd,H1[H.length]? = some (.loop F n ps a b st pd)∧st≠.busy∧uP E n N Q k (pd.getD .normal) F (H1.set H.length .dead))):Holds E n N Q (.code (.rfun f ps a b)) k F H:=by
 refine awp_rfun ?_
 rw [hf]
 exact ⟨hen,h⟩
def RoundQ (_E:Env) (l:Nat) (F:AFr) (n:Nat) (ps:List Nat) (a b:ACode) (R:AV→zz→Prop) (e:zL) (_F2:AFr) (H2:zz):Prop :=
  ∃ pd2,H2[l]? = some (.loop F n ps a b .busy pd2)∧match e with
        | .normal=>R (.val (.bool true)) (H2.set l (.loop F n ps a b .ready none))
        | e=>R (.val (.bool false)) (H2.set l (.loop F n ps a b .done (some e)))
def AssignQ (E:Env) (l N:Nat) (F:AFr) (n:Nat) (ps:List Nat) (a b:ACode) (R:AV→zz→Prop) (e:zL) (F1:AFr) (H1:zz):Prop :=
 e=.normal∧∃ pd1,H1[l]? = some (.loop F n ps a b .ready pd1)∧Holds E n N (RoundQ E l F n ps a b R) (.code b) [] F1 (H1.set l (.loop F n ps a b .busy pd1))
theorem yield_round {l:Nat} {args:List AV} {R:AV→zz→Prop} {ps:List Nat} {a b:ACode} {pd:Option zL} (hl:H[l]? = some (.loop F n ps a b .ready pd)) (hlen:ps.length=args.length)
 (h:Holds E n H.length (AssignQ E l H.length F n ps a b R) (.code a) [] (ta F ps args) H):tr E l args H R :=
 ayield_round hl hlen (AWP.mono h fun _e _F1 _H1 ⟨h1,pd1,h2,h3⟩=>⟨h1,pd1,h2,AWP.mono h3 fun _e _F2 _H2 h=>h⟩)
end
end Go.Am
end
section
namespace Go.Am
section
variable {E:Env} {n N:Nat} {Q:zL→AFr→zz→Prop} {k:List KI} {F:AFr} {H:zz}
theorem Runs.mem_all {ops:List AOper}:∀ {l S:List Nat},Runs ops S l→∀ i,i<ops.length→i∈S∨i∈l
 | [],S,h,i,hi=>.inl (h i hi)
 | j :: l,S,h,i,hi=>by
  rcases Runs.mem_all h.2.2 i hi with h | h
  · rcases List.mem_cons.1 h with rfl | h
    · exact .inr List.mem_cons_self
    · exact .inl h
  · exact .inr (List.mem_cons_of_mem _ h)
theorem Runs.lt {ops:List AOper}:∀ {l S:List Nat},Runs ops S l→∀ i∈l,i<ops.length
 | [],S,h,i,hi=>by cases hi
 | j :: l,S,h,i,hi=>by
  rcases List.mem_cons.1 hi with rfl | hi
  · obtain ⟨o,ho,_⟩:=h.2.1;exact (List.getElem?_eq_some_iff.1 ho).1
  · exact Runs.lt h.2.2 i hi
end
end Go.Am
end
section
namespace Go.Am
def AllC (P:List Nat→Prop):List (List Nat)→Prop
 | []=>True
 | c :: r=>P c∧AllC P r
theorem AllC.mem {P:List Nat→Prop}:∀ {l:List (List Nat)},AllC P l→∀ c∈l,P c
 | [],_,c,h=>by cases h
 | x :: r,h,c,hc=>by
  rcases List.mem_cons.1 hc with rfl | hc
  · exact h.1
  · exact h.2.mem c hc
section
variable {E:Env} {n N:Nat} {Q:zL→AFr→zz→Prop} {k:List KI} {F:AFr} {H:zz}
theorem zb {ops:List AOper} {B:List Nat} (hm:E.P.follows .mixedOrders=true) (hB:vR ops []=B) (hwf:vI ops B=true) (h:TR E ops F H (fun ks Hs F' H'=>xv B (zM 0 ks).length (zM 0 ks)=[zM 0 ks]∧za B (zM 0 ks) (H :: Hs) 0 ks∧Holds E n N Q (.out .normal) k F' H')):Holds E n N Q (.code (.draw ops)) k F H:=by
 subst hB;exact tr_draw hm hwf h
end
end Go.Am
end
section
set_option maxRecDepth 20000
namespace Go.Am
open Go Go.Lib
section
variable {E:Env} {n N:Nat} {F:AFr} {H:zz}
theorem ent_trunc {b k m:Nat} {es:List AV} (hb:H[b]? = some (.arr k es)) (hN:N≤H.length):Ent E n N F H F (H.set b (.arr k (es.take m))):=by
 intro K w tmps h1 h2 h3
 have ho:=h1.obj b _ hb
 cases hg:K.γ b with
 | none =>
  rw [hg] at ho
  cases ho with
  | arr0 =>
   have he:H.set b (.arr k (([]:List AV).take m))=H:=by
    apply List.ext_getElem?
    intro i
    rw [List.getElem?_set]
    split
    · rename_i hbi;subst hbi;rw [hb];simp [(List.getElem?_eq_some_iff.1 hb).1]
    · rfl
   rw [he]
   exact ⟨K,h1,h2,(Ev.refl H.length K H w (Nat.le_refl _)).mono hN⟩
 | some g =>
  obtain ⟨blk,base⟩:=g
  obtain ⟨c,cty,hheap,hck,hl⟩:=h1.arr hb hg
  have hH:=h1.touch (o':=.arr k (es.take m)) hb trivial hg (w':=w) ⟨fun _ _=>rfl,rfl,fun b c ty fz h=>⟨c,fz,h,rfl⟩,fun b r h=>⟨r,h⟩,rfl,rfl⟩ trivial (fun mv=>by
   refine .arr _ _ _ _ _ _ hheap (fun i e he=>?_) (fun i e he=>?_)
   · rw [List.getElem?_take] at he;split at he
     · exact hck i e he
     · cases he
   · rw [List.getElem?_take] at he;split at he
     · exact hl i e he
     · cases he)
  obtain ⟨hh2,ev2⟩:=hH
  exact ⟨K,hh2,by rw [List.length_set];exact h2,ev2.mono hN⟩
end
end Go.Am
end
section
namespace Go.Am
open Go Go.Lib
section
variable {E:Env} {F:AFr} {H:zz} {K:List Kd→List zz→AFr→zz→Prop}
theorem zn {dst:Option Nat} {op:AOp} {after:List Nat} {guard:Option (Nat × Bool)} {l:List AOper} (hg:zK F guard=some true) (h:TR E (⟨dst,op,after,none⟩ :: l) F H K):TR E (⟨dst,op,after,guard⟩ :: l) F H K:=by
 obtain ⟨V,ks,Hs,F',H',ht,hk⟩:=h
 refine ⟨V,ks,Hs,F',H',?_,hk⟩
 cases ht with
 | free h1 hq hr he r=>exact .free (o:=⟨dst,op,after,guard⟩) hg hq hr he r
 | look h1 hr he r=>exact .look (o:=⟨dst,op,after,guard⟩) hg hr he r
 | skip h1 r=>cases h1
 | skipq h1 r=>rcases h1 with h1 | ⟨d,b,h1,_⟩<;>cases h1
 | pcall f xs args h1 ho ha hc hcl r=>exact .pcall (o:=⟨dst,op,after,guard⟩) f xs args hg ho ha hc hcl r
 | bslf kk xs es h1 ho ha hf r=>exact .bslf (o:=⟨dst,op,after,guard⟩) kk xs es hg ho ha hf r
 | eff h1 he r=>exact .eff (o:=⟨dst,op,after,guard⟩) hg he r
 | ecall f xs args h1 ho ha hen hc r=>exact .ecall (o:=⟨dst,op,after,guard⟩) f xs args hg ho ha hen hc r
end
end Go.Am
end
section
namespace Go.Am
theorem wb (cs:List AV):(AV.agg cs).closed=AV.closedL cs:=rfl
theorem xb (v:Value):(AV.val v).closed=true:=rfl
theorem PCall.weak {E:Env} {f:FuncId} {args args':List AV} {v:AV} (h:PCall E f args' v) (hw:WkL 0 args args'):PCall E f args v:=by
 refine ⟨h.1,fun K w ys hh hv=>h.2 K w ys hh ?_⟩
 obtain ⟨hl,hc⟩:=hw.spec
 refine ⟨hl ▸ hv.1,fun i x' y hx hy=>?_⟩
 obtain ⟨x,hx0⟩:∃ x,args[i]? = some x:=⟨_,List.getElem?_eq_getElem (by have:=(List.getElem?_eq_some_iff.1 hx).1;omega)⟩
 exact (hc i x x' hx0 hx).rep (hv.2 i x y hx0 hy)
end Go.Am
end
section
namespace Go.Am
theorem ACall.at {E:Env} {f:FuncId} {args args':List AV} {Hl H1l H H1:zz} {v1 v:AV} (L:List Nat) (hc:ACall E f args Hl fun v' H'=>v'=v1∧H'=H1l) (hnd:L.Nodup) (hlt:∀ x∈L,x<H.length)
 (hHl:Hl=L.map fun x=>(H.getD x .dead).sub (ya L)) (hargs:args=args'.map (AV.sub (ya L))) (hv:v1.sub (vu L H.length)=v) (hH:yX H L H1l=H1) :
 ACall E f args' H fun v' H'=>v'=v∧H'=H1:=by
 refine ACall.mono (ACall.frame hc (H:=H) (args':=args') L hnd hlt hHl hargs) ?_
 rintro _ _ ⟨v0,H',⟨rfl,rfl⟩,h2,rfl,rfl⟩
 exact ⟨hv,hH⟩
section
variable {E:Env} {n N:Nat} {Q:zL→AFr→zz→Prop} {F0:AFr} {H0:zz}
end
end Go.Am
end
section
namespace Go.Am
section
variable {E:Env} {n N:Nat} {Q:zL→AFr→zz→Prop} {k:List KI} {F:AFr} {H:zz}
theorem xz {o:AOper} {l:List AOper} {x:Opd} {xs:List Opd} {f:FuncId} {cs args:List AV} {v:AV} (hg:o.guard=none) (ho:o.op=.callv x xs) (hf:x.ev E.G F=.fn f cs) (ha:xs.map (·.ev E.G F)++cs=args) (hc:PCall E f args v) (hcl:AV.closedL args=true)
 (h:Holds E n N Q (.ops l) k (F.set o.dst v) H):Holds E n N Q (.ops (o :: l)) k F H :=
 on_callv (R:=fun v' H'=>v'=v∧H'=H) hg ho hf rfl ⟨hc.1,by rw [ha];exact hc.lift hcl⟩ (by rintro _ _ ⟨rfl,rfl⟩;exact h)
end
def Keeps (o:AObj):Prop:=∀ σ:Nat→Sub,(∀ i,i<10→σ i=.to i)→o.sub σ=o
theorem Keeps.dead : Keeps .dead:=fun _ _=>rfl
theorem on_fz10 {E:Env} {n:Nat} {Q:zL→AFr→zz→Prop} {k:List KI} {F F':AFr} {l:List AOper} {o0 o1 o2 o3 o4 o5 o6 o7 o8 o9:AObj} {cs:List AV} (hb:∀ o∈[o0,o1,o2,o3,o4,o5,o6,o7,o8,o9],Keeps o) (hcl:AV.closedL cs=true)
 (hF:FWk 10 (ofL [.to 0,.to 1,.to 2,.to 3,.to 4,.to 5,.to 6,.to 7,.to 8,.to 9,.icells cs]) F F') (h:Holds E n 8 Q (.ops l) k F' [o0,o1,o2,o3,o4,o5,o6,o7,o8,o9]):Holds E n 8 Q (.ops l) k F [o0,o1,o2,o3,o4,o5,o6,o7,o8,o9,.cells cs]:=by
 have hs:∀ i,i<10→ofL [.to 0,.to 1,.to 2,.to 3,.to 4,.to 5,.to 6,.to 7,.to 8,.to 9,.icells cs] i=.to i:=by
  intro i hi
  match i,hi with
  | 0,_ | 1,_ | 2,_ | 3,_ | 4,_ | 5,_ | 6,_ | 7,_ | 8,_ | 9,_=>rfl
 refine xu (F':=F') (H':=[o0,o1,o2,o3,o4,o5,o6,o7,o8,o9]) (yR [.to 0,.to 1,.to 2,.to 3,.to 4,.to 5,.to 6,.to 7,.to 8,.to 9,.icells cs] [some 0,some 1,some 2,some 3,some 4,some 5,some 6,some 7,some 8,some 9] ⟨rfl,rfl,rfl,rfl,rfl,rfl,rfl,rfl,trivial⟩ (by simp) (by simp)
  ⟨⟨by simp,rfl⟩,⟨by simp,rfl⟩,⟨by simp,rfl⟩,⟨by simp,rfl⟩,⟨by simp,rfl⟩,⟨by simp,rfl⟩,⟨by simp,rfl⟩,⟨by simp,rfl⟩,⟨by simp,rfl⟩,⟨by simp,rfl⟩,⟨cs,rfl,(zp _ hcl).symm⟩,trivial⟩
  ⟨.same 0 _ _ rfl rfl rfl (hb _ (by simp) _ hs),.same 1 _ _ rfl rfl rfl (hb _ (by simp) _ hs),.same 2 _ _ rfl rfl rfl (hb _ (by simp) _ hs),.same 3 _ _ rfl rfl rfl (hb _ (by simp) _ hs),.same 4 _ _ rfl rfl rfl (hb _ (by simp) _ hs),
   .same 5 _ _ rfl rfl rfl (hb _ (by simp) _ hs),.same 6 _ _ rfl rfl rfl (hb _ (by simp) _ hs),.same 7 _ _ rfl rfl rfl (hb _ (by simp) _ hs),.same 8 _ _ rfl rfl rfl (hb _ (by simp) _ hs),.same 9 _ _ rfl rfl rfl (hb _ (by simp) _ hs),trivial⟩ hF) h
theorem keeps_drop {H:zz} (h8:H.length=10) (hb:∀ o∈H,Keeps o):∀ o∈H,o.sub (vi H.length)=o:=by
 intro o ho
 refine hb o ho _ fun i hi=>?_
 rw [h8];unfold vi
 have:Nat.blt i 10=true:=Nat.ble_eq_true_of_le hi
 rw [this];rfl
theorem sub_part {σ:Nat→Sub} {b k lo n:Nat} {es es':List AV} (hs:σ b=.isl k es) (hn:lo+n≤es.length) (he:(es.drop lo).take n=es'):(AV.sl b k lo n).sub σ=.isl k es':=by
 simp only [AV.sub,hs,Nat.beq_refl,Bool.true_and]
 rw [Nat.ble_eq_true_of_le hn,cond_true,he]
theorem zA (f:FuncId) (cs:List AV):(AV.fn f cs).closed=AV.closedL cs:=rfl
theorem zd (cs:List AV):(AV.iptr cs).closed=AV.closedL cs:=rfl
end Go.Am
end
section
namespace Go.Am
def ACallN (E:Env) (N:Nat) (f:FuncId) (args:List AV) (H:zz) (R:AV→zz→Prop):Prop :=
 ∀ K w ys,N≤H.length→HRep E K w H→VReps K H.length w args ys →
  Calls E.P f ys.toArray w fun e w'=>∃ v y H' K',e=.returned y∧R v H'∧HRep E K' w' H'∧VRep K' H'.length w' v y∧Ev N K H w K' H' w'
theorem ACallN.all {E:Env} {f:FuncId} {args:List AV} {H:zz} {R:AV→zz→Prop} (h:ACallN E H.length f args H R):ACall E f args H R:=fun K w ys h1 h2=>h K w ys (Nat.le_refl _) h1 h2
theorem ACallN.mono {E:Env} {N:Nat} {f:FuncId} {args:List AV} {H:zz} {R R':AV→zz→Prop} (h:ACallN E N f args H R) (hr:∀ v H',R v H'→R' v H'):ACallN E N f args H R' :=
 fun K w ys hN hh hv=>(h K w ys hN hh hv).mono fun _e _w' ⟨v,y,H',K',h1,h2,h3⟩=>⟨v,y,H',K',h1,hr v H' h2,h3⟩
theorem acallN_body {E:Env} {N:Nat} {f:FuncId} {fn:Func} {ac:ACode} {args:List AV} {H:zz} {R:AV→zz→Prop} {rvs:List RV} (hf:E.P.funcs[f]? = some fn) (hb:fn.body.map (yj E.P fn.ntmps)=some ac) (hrv:fn.results.toList.map (x9 E.P)=rvs.map some) (hn:args.length≤fn.ntmps)
 (h:AWP E fn.ntmps N ac (xF 0 args) H (fun e F' H'=>match e with | .exit _=>False | _=>∃ vs,wx F' H' rvs=some vs∧R (xD vs) H')):ACallN E N f args H R:=by
 intro K w ys hNH h1 h2 cs
 obtain ⟨code,hcode,hprep⟩:=Option.map_eq_some_iff.1 hb
 let T:Fc:=⟨f,.normal,none⟩
 have henter:Frame.enter E.P f ys.toArray .normal=T.fr (ys.toArray++Array.replicate (fn.ntmps - ys.toArray.size) undef) [] [.code code]:=by
  simp [Frame.enter,Fc.fr,T,hf,hcode]
 have hF:=startF_rep (n:=fn.ntmps) h2 hn
 obtain ⟨e,F',H',K',w',t',nw,todo,q,a1,a2,a3,a4,a5,a6,a7⟩:=h code hprep K w _ T [] [] cs h1 hF hNH ⟨(fun l hl=>by cases hl),List.nodup_nil,(fun r hr=>by cases hr)⟩
 have fin:∀ (fr:Frame),fr = { T.fr t' ((nw++[]).map xp) todo with mode:=.returning }→Steps E.P (lone (T.fr t' ((nw++[]).map xp) todo) cs w') (lone fr cs w')→(∃ vs,wx F' H' rvs=some vs∧R (xD vs) H') →
  ∃ e' w2 fr2,(fun e w'=>∃ v y H' K',e=.returned y∧R v H'∧HRep E K' w' H'∧VRep K' H'.length w' v y∧Ev N K H w K' H' w') e' w2∧Comes E.P (lone (Frame.enter E.P f ys.toArray .normal) cs w) (lone fr2 cs w2) e'∧fr2.fn=f∧fr2.leaving E.P w2 e':=by
  rintro fr rfl hs ⟨vs,hvs,hR⟩
  obtain ⟨w2,b1,b2,b3,b4⟩:=unmark_all nw { T.fr t' ((nw++[]).map xp) todo with mode:=.returning } cs w' N K H w rfl (by simp [Fc.fr]) (by simpa using a4.nodup) (fun r hr=>a4.marks r (by simpa using hr)) a5 a1 a3
  obtain ⟨y,c1,c2⟩:=results_run b1 (b4.frep a2) hrv hvs
  refine ⟨.returned y,w2,{ T.fr t' ((nw++[]).map xp) todo with mode:=.returning,defers:=[] },⟨_,y,H',K',rfl,hR,b1,c2,b2⟩,?_,rfl,rfl,rfl,rfl,fn,hf,c1⟩
  rw [henter]
  exact a7.trans (hs.trans b3)
 cases e with
 | exit id=>exact q.elim
 | normal=>cases a6;exact fin _ rfl (.one (st_end rfl)) q
 | ret=>cases a6 with | ret k'=>exact fin _ rfl (.one (st_ret rfl)) q
theorem rcallN_body {E:Env} {N:Nat} {f:FuncId} {fn:Func} {ac:ACode} {args:List AV} {H:zz} {R:AV→zz→Prop} {n:Nat} {rvs:List RV} (hf:E.P.funcs[f]? = some fn) (hb:fn.body.map (yj E.P n)=some ac) (hnt:fn.ntmps=n) (hrv:fn.results.toList.map (x9 E.P)=rvs.map some) (hn:Nat.ble args.length n=true)
 (h:Holds E n N (OQ E n N rvs R) (.code ac) [] (xF 0 args) H):ACallN E N f args H R:=by
 subst hnt
 refine acallN_body hf hb hrv (Nat.le_of_ble_eq_true hn) (AWP.entEnd (AWP.mono h fun e F' H' h=>?_))
 cases e with
 | exit i=>exact h.elim
 | normal=>obtain ⟨F2,H2,vs,a,b,c⟩:=h;exact ⟨F2,H2,a,vs,b,c⟩
 | ret=>obtain ⟨F2,H2,vs,a,b,c⟩:=h;exact ⟨F2,H2,a,vs,b,c⟩
section
variable {E:Env} {n N:Nat} {F:AFr} {H:zz} {Q:AFr→zz→Prop}
theorem aops_callN {F2:AFr} {a:AOper} {rest:List AOper} {f:FuncId} {xs:List Opd} {args:List AV} {R:AV→zz→Prop} (hg:zK F a.guard=some true) (ho':a.op=.call f xs) (hargs:xs.map (·.ev E.G F)=args) (hen:yr E.P f) (hc:ACallN E N f args H R) (hF2:FWk N (vi N) F F2)
 (h:∀ v H1,R v H1→AOps E n N rest (F2.set a.dst v) H1 Q):AOps E n N (a :: rest) F H Q:=by
 intro ops l hl K w tmps T ds k cs h1 h2 h3
 obtain ⟨i,l',o,rfl,ho,rfl,hl'⟩:=xB hl
 have hnb:(zQ E.P n ops o).op≠.bad:=by rw [ho'];intro e;cases e
 obtain ⟨e1,e2,e3⟩:=wv hnb
 rw [e1] at ho' hnb
 have hw:=wW h2 e3 hg
 have hops:=uQ h1 h2 (ρ:=(T.fr tmps ds (.inRegion ops (i :: l') :: k)).eval) (fun x=>Fc.eval_fr _ _ _ _ x)
 obtain ⟨c,hop,hcal,rfl⟩:=prepOp_call ho'
 have hvs:VReps K H.length w args (c.args.toList.map (T.fr tmps ds (.inRegion ops (i :: l') :: k)).eval):=by
  rw [← hargs]
  refine ⟨by simp,?_⟩
  have:=rep_list hops (xs:=c.args.toList)
  intro j x y hx hy
  exact this j x y (by simpa using hx) hy
 have hrun:(execOp (T.fr tmps ds (.inRegion ops (i :: l') :: k)).eval o).run E.P w=.ok (.enter f (c.args.toList.map (T.fr tmps ds (.inRegion ops (i :: l') :: k)).eval).toArray) w:=by
  have ha:(c.args.toList.map (T.fr tmps ds (.inRegion ops (i :: l') :: k)).eval).toArray=c.args.map (T.fr tmps ds (.inRegion ops (i :: l') :: k)).eval:=Array.ext' (by simp)
  obtain ⟨callee,args',ts⟩:=c
  dsimp only at hcal ha
  subst hcal
  rw [ha]
  have hef:(T.fr tmps ds (.inRegion ops (i :: l') :: k)).eval (.func f)=.func (.func f) #[] #[]:=rfl
  simp [execOp,hop,resolve,hef,Deferred.ofValue,invoke]
  exact hen _ _
 have hst:=st_op_enter (cs:=cs) ho hw (vz hnb) hrun
 have hcalls:=(hc K w _ h3 h1 hvs).mono (R':=fun e w'=>∃ y,e=.returned y∧∃ v H' K',R v H'∧HRep E K' w' H'∧VRep K' H'.length w' v y∧Ev N K H w K' H' w') (by
  rintro e w' ⟨v,y,H',K',rfl,h⟩;exact ⟨y,rfl,v,H',K',h⟩)
 obtain ⟨y,w1,⟨v,H1,K1,hR,hh,hv,ev⟩,hs⟩:=calls_steps hcalls (T.fr tmps ds (.inRegion ops (i :: l') :: k)) cs
 have hfin:=vG (T:=T) (tmps:=tmps) (ds:=ds) (k:=k) (ops:=ops) (i:=i) (rest:=l') y
 rw [ho] at hfin;simp only [Option.bind_some] at hfin
 rw [hfin] at hs
 have sok:u9 E K w H (vi N) K N:=by
  refine ⟨fun b b' hb hs=>?_,fun b k es hb hs=>?_,fun b cs hb hs=>?_,fun b h=>h,fun b blk base hb h1 h2=>?_⟩
  all_goals rcases keepS_or N b with ⟨hc,hl⟩ | hc
  · rw [hc] at hs;cases hs;exact ⟨hl,rfl⟩
  · rw [hc] at hs;cases hs
  · rw [hc] at hs;cases hs
  · rw [hc] at hs;cases hs
  · rw [hc] at hs;cases hs
  · rw [hc] at hs;cases hs
  · exact absurd hc (h1 b)
  · exact absurd hc h2
 have h2':wK n K N w F2 tmps:=⟨h2.1,fun t=>(hF2.spec t).rep (wq h1 sok _ _ _ (Nat.le_refl _) (h2.2 t))⟩
 have hF:=xA (Ev.mv h1 ev) h2' hv o.dst (.inl e2)
 have h:=h v H1 hR
 rw [yF] at h
 obtain ⟨F',H',K',w',t',q,a1,a2,a3,a4⟩:=h ops l' hl' K1 w1 _ T ds k cs hh hF ev.len
 exact ⟨F',H',K',w',t',q,a1,a2,ev.trans a3,.head hst (hs.trans a4)⟩
end
section
variable {E:Env} {n N:Nat} {Q:zL→AFr→zz→Prop} {k:List KI} {F F2:AFr} {H:zz}
theorem on_callN {o:AOper} {l:List AOper} {f:FuncId} {xs:List Opd} {args:List AV} {R:AV→zz→Prop} (hg:o.guard=none) (ho:o.op=.call f xs) (ha:xs.map (·.ev E.G F)=args) (hen:yr E.P f) (hc:ACallN E N f args H R) (hF2:FWk N (vi N) F F2)
 (h:∀ v H1,R v H1→Holds E n N Q (.ops l) k (F2.set o.dst v) H1):Holds E n N Q (.ops (o :: l)) k F H :=
 aops_callN (by rw [hg];rfl) ho ha hen hc hF2 h
end
def KeepsV (v:AV):Prop:=∀ σ:Nat→Sub,(∀ i,i<10→σ i=.to i)→v.sub σ=v
theorem KeepsV.cl {v:AV} (h:v.closed=true):KeepsV v:=fun σ _=>zX σ _ v (Nat.le_refl _) h
theorem KeepsV.ptr {b off:Nat} (h:b<10):KeepsV (.ptr b off):=fun σ hs=>by simp only [AV.sub,hs b h]
theorem KeepsV.sl {b k lo n:Nat} (h:b<10):KeepsV (.sl b k lo n):=fun σ hs=>by simp only [AV.sub,hs b h]
def FK : AFr→Prop
 | []=>True
 | (_,v) :: r=>KeepsV v∧FK r
theorem FK.sub : ∀ {F:AFr},FK F→∀ σ:Nat→Sub,(∀ i,i<10→σ i=.to i)→F.sub σ=F
 | [],_,_,_=>rfl
 | (d,v) :: r,h,σ,hs=>by
  have:=FK.sub h.2 σ hs
  unfold AFr.sub at this ⊢
  rw [List.map_cons,this,h.1 σ hs]
def CK : List AV→Prop
 | []=>True
 | v :: r=>KeepsV v∧CK r
theorem CK.sub : ∀ {cs:List AV},CK cs→∀ σ:Nat→Sub,(∀ i,i<10→σ i=.to i)→AV.subL σ cs=cs
 | [],_,_,_=>rfl
 | v :: r,h,σ,hs=>by rw [AV.subL,CK.sub h.2 σ hs,h.1 σ hs]
theorem Keeps.cells {cs:List AV} (h:CK cs):Keeps (.cells cs):=fun σ hs=>by simp only [AObj.sub,h.sub σ hs]
theorem Keeps.arr {k:Nat} {es:List AV} (h:AV.closedL es=true):Keeps (.arr k es):=fun σ _=>by simp only [AObj.sub,zp _ h]
theorem Keeps.loop {F:AFr} {n:Nat} {ps:List Nat} {a b:ACode} {st:LoopState} {pd:Option zL} (h:FK F):Keeps (.loop F n ps a b st pd):=fun σ hs=>by simp only [AObj.sub,h.sub σ hs]
def WkR (g:Prop) (A:List AObj) (S:zz→Prop) (v:AV) (H':zz):Prop:=(v=.val (.bool true)∧g∧H'=A)∨(v=.val (.bool false)∧S H')
def YdR (E:Env) (g:Prop) (A:List AObj) (S:zz→Prop) (v:AV) (H':zz):Prop:=(v=.val (.bool true)∧g∧HEnt E 8 7 H' A)∨(v=.val (.bool false)∧S H')
section
variable {E:Env} {n N N2:Nat} {Q:zL→AFr→zz→Prop} {k:List KI} {F F1 F2:AFr} {H1 H2:zz} {ps:List Nat} {a b:ACode} {pd:Option zL}
def StopS (E:Env) (n N:Nat) (Q:zL→AFr→zz→Prop) (k:List KI) (F:AFr) (ps:List Nat) (a b:ACode) (H':zz):Prop :=
 ∃ e,H'[7]? = some (.loop F n ps a b .done (some e))∧Holds E n N Q (.out e) k F (H'.set 7 .dead)
theorem xe {R:AV→zz→Prop} {l:Nat} (h1:H1[l]? = some (.loop F n ps a b .ready pd)) (h:Holds E n N (RoundQ E l F n ps a b R) (.code b) [] F1 (H1.set l (.loop F n ps a b .busy pd))) :
 Holds E n N (AssignQ E l N F n ps a b R) (.out .normal) [] F1 H1:=⟨rfl,pd,h1,h⟩
theorem wN {g:Prop} {A:List AObj} {S:zz→Prop} (h1:H2[7]? = some (.loop F n ps a b .busy pd)) (hg:g) (h:HEnt E 8 7 (H2.set 7 (.loop F n ps a b .ready none)) A) :
 Holds E n N (RoundQ E 7 F n ps a b (YdR E g A S)) (.out .normal) [] F2 H2:=⟨pd,h1,.inl ⟨rfl,hg,h⟩⟩
theorem rnd_stop {g:Prop} {A:List AObj} {e:zL} (hne:e≠.normal) (h1:H2[7]? = some (.loop F n ps a b .busy pd)) (h:Holds E n N2 Q (.out e) k F (H2.set 7 .dead)) :
 Holds E n N (RoundQ E 7 F n ps a b (YdR E g A (StopS E n N2 Q k F ps a b))) (.out e) [] F2 H2:=by
 have h7:7<H2.length:=(List.getElem?_eq_some_iff.1 h1).1
 refine ⟨pd,h1,?_⟩
 cases e with
 | normal=>exact absurd rfl hne
 | _=>exact .inr ⟨rfl,_,by rw [List.getElem?_set_self h7],by rw [List.set_set];exact h⟩
end
end Go.Am
end
section
namespace Go.Am
def uJ (d:Nat) (o:AOper):Bool:=match o.dst with
 | some x=>!Nat.beq x d
 | none=>true
def isPick (d:Nat) (o:AOp):Bool:=match o with
 | .pick (.t d') _ _=>Nat.beq d' d
 | _=>false
def sameG (d:Nat) (b:Bool) (g:Option (Nat × Bool)):Bool:=match g with
 | some (d',b')=>Nat.beq d' d && (b' == b)
 | none=>false
def td (U:List Nat) (o:AOper):List Nat:=match o.dst with
 | some x=>x :: U
 | none=>U
def hasN (U:List Nat) (d:Nat):Bool:=U.any (Nat.beq · d)
def runN (X:y4) (G:Nat→AV):Nat→Nat→Bool→List Nat→List AOper→AFr→zz→Option (Cd × AFr × AOper × List AOper × List AOper)
 | 0,_,_,_,_,_,_=>none
 | _+1,_,_,_,[],_,_=>none
 | f+1,d,b,U,o :: l,F,H =>
  match isPick d o.op with
  | true=>some (.tt,F,o,l,[])
  | false=>match o.guard with
   | none=>none
   | some (d',b')=>match Nat.beq d' d && (b' == b) with
    | true=>match ye o.op && uJ d o with
     | false=>none
     | true=>match opX X G o.op F H with
      | some (c,v,_)=>match runN X G f d b (td U o) l (F.set o.dst v) H with
       | some (c',F',p,rest,S)=>some (wR c c',F',p,rest,o :: S)
       | none=>none
      | none=>none
    | false=>match F.get d' with
     | .val (.bool t')=>match hasN U d' with
      | false=>none
      | true=>match runN X G f d' b' [] (o :: l) F H with
       | some (c,F1,p,rest,S)=>match sameG d b p.guard && uJ d p && S.all (uJ d) && ye p.op with
        | false=>none
        | true=>match vw X G b' t' p F1 F with
         | some v=>match runN X G f d b (td U p) rest ((zB S F).set p.dst v) H with
          | some (c',F',p',rest',S')=>some (wR (tB (cond b' t' (X.bNot t')) c) c',F',p',rest',S++p :: S')
          | none=>none
         | none=>none
       | none=>none
     | _=>none
theorem nodst_spec {d:Nat} {o:AOper} (h:uJ d o=true):o.dst≠some d:=by
 intro e;unfold uJ at h;rw [e] at h;simp [Nat.beq_refl] at h
theorem isPick_spec {d:Nat} {o:AOp} (h:isPick d o=true):∃ x y,o=.pick (.t d) x y:=by
 unfold isPick at h
 split at h
 · rename_i d' x y
   exact ⟨x,y,by rw [Nat.eq_of_beq_eq_true h]⟩
 · cases h
theorem sameG_spec {d:Nat} {b:Bool} {g:Option (Nat × Bool)} (h:sameG d b g=true):g=some (d,b):=by
 unfold sameG at h
 split at h
 · simp only [Bool.and_eq_true,beq_iff_eq] at h
   rw [Nat.eq_of_beq_eq_true h.1,h.2]
 · cases h
theorem hasN_spec {U:List Nat} {d:Nat} (h:hasN U d=true):d∈U:=by
 unfold hasN at h
 obtain ⟨x,hx,hb⟩:=List.any_eq_true.1 h
 rw [← Nat.eq_of_beq_eq_true hb];exact hx
theorem quiet_bad {o:AOp} (h:ye o=true):o≠.bad:=by rintro rfl;cases h
def SkL (d:Nat) (b:Bool):List Nat→List AOper→Prop
 | _,[]=>True
 | U,o :: S=>(o.guard=some (d,b)∨∃ u b',u∈U∧o.guard=some (u,b'))∧o.op≠.bad∧o.dst≠some d∧SkL d b (td U o) S
theorem addD_mem {U:List Nat} {o:AOper} {u:Nat}:u∈td U o↔u∈U∨o.dst=some u:=by
 unfold td
 cases h:o.dst with
 | none=>simp
 | some x=>simp [eq_comm,or_comm]
theorem SkL.mono {d:Nat} {b:Bool}:∀ {S:List AOper} {U U':List Nat},(∀ u∈U,u∈U')→SkL d b U S→SkL d b U' S
 | [],_,_,_,_=>trivial
 | o :: S,U,U',hU,⟨h1,h2,h3,h4⟩=>by
  refine ⟨?_,h2,h3,h4.mono fun u hu=>?_⟩
  · rcases h1 with h | ⟨u,b',hu,hg⟩
    · exact .inl h
    · exact .inr ⟨u,b',hU u hu,hg⟩
  · rw [addD_mem] at hu ⊢
    exact hu.imp (hU u) id
theorem SkL.lift {d d':Nat} {b b':Bool}:∀ {S:List AOper} {U U':List Nat},d'∈U'→(∀ u∈U,u∈U')→(∀ o∈S,o.dst≠some d)→SkL d' b' U S→SkL d b U' S
 | [],_,_,_,_,_,_=>trivial
 | o :: S,U,U',hd,hU,hn,⟨h1,h2,h3,h4⟩=>by
  refine ⟨.inr ?_,h2,hn o List.mem_cons_self,SkL.lift (addD_mem.2 (.inl hd)) (fun u hu=>?_) (fun o' ho'=>hn o' (List.mem_cons_of_mem _ ho')) h4⟩
  · rcases h1 with h | ⟨u,b2,hu,hg⟩
    · exact ⟨d',b',hd,h⟩
    · exact ⟨u,b2,hU u hu,hg⟩
  · rw [addD_mem] at hu ⊢
    exact hu.imp (hU u) id
theorem SkL.app {d:Nat} {b:Bool}:∀ {S S':List AOper} {U U':List Nat},SkL d b U S→(∀ u∈U',u∈U∨∃ o∈S,o.dst=some u)→SkL d b U' S'→SkL d b U (S++S')
 | [],S',U,U',_,hU,h'=>h'.mono fun u hu=>by
  rcases hU u hu with h | ⟨o,ho,_⟩
  · exact h
  · cases ho
 | o :: S,S',U,U',⟨h1,h2,h3,h4⟩,hU,h'=>by
  refine ⟨h1,h2,h3,h4.app (U':=U') (fun u hu=>?_) h'⟩
  rcases hU u hu with h | ⟨o',ho',e⟩
  · exact .inl (addD_mem.2 (.inl h))
  · rcases List.mem_cons.1 ho' with rfl | ho'
    · exact .inl (addD_mem.2 (.inr e))
    · exact .inr ⟨o',ho',e⟩
theorem wt : ∀ (S:List AOper) (F:AFr) (t:Nat),(∀ o∈S,o.dst≠some t)→(zB S F).get t=F.get t
 | [],_,_,_=>rfl
 | o :: S,F,t,h=>by
  rw [zB,wt S _ t fun o' ho'=>h o' (List.mem_cons_of_mem _ ho'),AFr.get_set,if_neg (h o List.mem_cons_self)]
theorem uM : ∀ (S:List AOper) (F:AFr) (t:Nat),(zB S F).get t=.undef∨((zB S F).get t=F.get t∧∀ o∈S,o.dst≠some t)
 | [],_,_=>.inr ⟨rfl,fun o h=>by cases h⟩
 | o :: S,F,t=>by
  rw [zB]
  rcases uM S (F.set o.dst .undef) t with h | ⟨h,h2⟩
  · exact .inl h
  · rw [h,AFr.get_set]
    by_cases hd:o.dst=some t
    · rw [if_pos hd];exact .inl rfl
    · rw [if_neg hd]
      refine .inr ⟨rfl,fun o' ho'=>?_⟩
      rcases List.mem_cons.1 ho' with rfl | ho'
      · exact hd
      · exact h2 o' ho'
section
variable {E:Env} {n N:Nat} {H:zz} {Q:AFr→zz→Prop}
theorem skl_skip {d:Nat} {b t:Bool} (htb:(t == b)=false) {rest:List AOper}:∀ (S:List AOper) (U:List Nat) (F:AFr),SkL d b U S→(∀ u∈U,F.get u=.val undef)→F.get d=.val (.bool t)→d∉U→(∀ F',(∀ t,(zB S F).get t=F'.get t∨(zB S F).get t=.undef)→AOps E n N rest F' H Q)→AOps E n N (S++rest) F H Q
 | [],U,F,_,hU,hd,_,h=>h F fun t=>.inl rfl
 | o :: S,U,F,⟨h1,h2,h3,h4⟩,hU,hd,hdU,h=>by
  rw [List.cons_append]
  refine aops_skipv2 h2 fun hx=>?_
  have next:AOps E n N (S++rest) (F.set o.dst (.val undef)) H Q:=by
   refine skl_skip htb S (td U o) _ h4 (fun u hu=>?_) (by rw [AFr.get_set,if_neg h3];exact hd) (fun hm=>?_) fun F' hF'=>h F' fun t=>?_
   · rw [AFr.get_set]
     by_cases e:o.dst=some u
     · rw [if_pos e]
     · rw [if_neg e]
       rcases addD_mem.1 hu with hu | hu
       · exact hU u hu
       · exact absurd hu e
   · rcases addD_mem.1 hm with hm | hm
     · exact hdU hm
     · exact h3 hm
   · rw [zB]
     rcases hF' t with e | e
     · rcases uM S (F.set o.dst .undef) t with e2 | ⟨e2,e3⟩
       · exact .inr e2
       · rw [wt S _ t e3] at e ⊢
         rw [AFr.get_set] at e ⊢
         by_cases hdt:o.dst=some t
         · rw [if_pos hdt];exact .inr rfl
         · rw [if_neg hdt] at e ⊢;exact .inl e
     · rcases uM S (F.set o.dst .undef) t with e2 | ⟨e2,e3⟩
       · exact .inr e2
       · rw [wt S _ t e3] at e ⊢
         rw [AFr.get_set] at e ⊢
         by_cases hdt:o.dst=some t
         · rw [if_pos hdt];exact .inr rfl
         · rw [if_neg hdt] at e ⊢;exact .inr e
  rcases h1 with hg | ⟨u,b',hu,hg⟩
  · exact aops_skipv (by rw [hg];simp only [zK,hd,htb]) next hx
  · exact aops_skipuv hg (hU u hu) next hx
theorem runN_sound {X:y4} (hXs:X=std):∀ (f d:Nat) (b:Bool) (U:List Nat) (ops:List AOper) (F:AFr) {c:Cd} {F1:AFr} {p:AOper} {rest S:List AOper},runN X E.G f d b U ops F H=some (c,F1,p,rest,S) →
 ops=S++p :: rest∧(∃ x y,p.op=.pick (.t d) x y)∧SkL d b U S∧(∀ t,(∀ o∈S,o.dst≠some t)→F1.get t=F.get t)∧(∀ o∈S,o.dst≠some d) ∧
 (c.ok→F.get d=.val (.bool b)→AOps E n N (p :: rest) F1 H Q→AOps E n N ops F H Q)
 | 0,_,_,_,_,_,_,_,_,_,_,h=>by simp [runN] at h
 | f+1,d,b,U,[],F,c,F1,p,rest,S,h=>by simp [runN] at h
 | f+1,d,b,U,o :: l,F,c,F1,p,rest,S,h=>by
  simp only [runN] at h
  cases hp:isPick d o.op with
  | true =>
   rw [hp] at h;dsimp only at h
   simp only [Option.some.injEq,Prod.mk.injEq] at h
   obtain ⟨rfl,rfl,rfl,rfl,rfl⟩:=h
   exact ⟨rfl,isPick_spec hp,trivial,fun t _=>rfl,fun o h=>(by cases h),fun _ _ h=>h⟩
  | false =>
   rw [hp] at h;dsimp only at h
   cases hg:o.guard with
   | none=>rw [hg] at h;simp at h
   | some g =>
    obtain ⟨d',b'⟩:=g
    rw [hg] at h
    dsimp only at h
    cases hs:(Nat.beq d' d && (b' == b)) with
    | true =>
     rw [hs] at h;dsimp only at h
     simp only [Bool.and_eq_true,beq_iff_eq] at hs
     have e1:=Nat.eq_of_beq_eq_true hs.1
     have e2:=hs.2
     subst e1 e2
     cases hq:(ye o.op && uJ d' o) with
     | false=>rw [hq] at h;cases h
     | true =>
      rw [hq] at h;dsimp only at h
      simp only [Bool.and_eq_true] at hq
      have hnd:=nodst_spec hq.2
      cases hop:opX X E.G o.op F H with
      | none=>rw [hop] at h;simp at h
      | some r =>
       obtain ⟨c0,v,H1⟩:=r
       rw [hop] at h
       dsimp only at h
       cases hr:runN X E.G f d' b' (td U o) l (F.set o.dst v) H with
       | none=>rw [hr] at h;simp at h
       | some r =>
        obtain ⟨c',F',p',rest',S'⟩:=r
        rw [hr] at h
        simp only [Option.some.injEq,Prod.mk.injEq] at h
        obtain ⟨rfl,rfl,rfl,rfl,rfl⟩:=h
        obtain ⟨i1,i2,i3,i4,i5,i6⟩:=runN_sound hXs f d' b' (td U o) l (F.set o.dst v) hr
        refine ⟨by rw [i1];rfl,i2,⟨.inl hg,quiet_bad hq.1,hnd,i3⟩,fun t ht=>?_,fun o' ho'=>?_,fun hc hd hA=>?_⟩
        · rw [i4 t fun o' ho'=>ht o' (List.mem_cons_of_mem _ ho'),AFr.get_set,if_neg (ht o List.mem_cons_self)]
        · rcases List.mem_cons.1 ho' with rfl | ho'
          · exact hnd
          · exact i5 o' ho'
        · have hc:=yq hc
          have hop:=wM hXs hop hc.1
          have hH:=wd hq.1 hop
          subst hH
          exact xm (by rw [hg];simp only [zK,hd];cases b'<;>rfl) hop rfl (i6 hc.2 (by rw [AFr.get_set,if_neg hnd];exact hd) hA)
    | false =>
     rw [hs] at h;dsimp only at h
     cases hv:F.get d' with
     | val vv =>
      rw [hv] at h
      cases vv with
      | bool t' =>
       dsimp only at h
       cases hU:hasN U d' with
       | false=>rw [hU] at h;cases h
       | true =>
        rw [hU] at h;dsimp only at h
        have hUm:=hasN_spec hU
        cases hr:runN X E.G f d' b' [] (o :: l) F H with
        | none=>rw [hr] at h;simp at h
        | some r =>
         obtain ⟨c1,F2,p2,rest2,S2⟩:=r
         rw [hr] at h
         dsimp only at h
         cases hck:(sameG d b p2.guard && uJ d p2 && S2.all (uJ d) && ye p2.op) with
         | false=>rw [hck] at h;cases h
         | true =>
          rw [hck] at h;dsimp only at h
          simp only [Bool.and_eq_true,List.all_eq_true] at hck
          obtain ⟨⟨⟨q1,q2⟩,q3⟩,q4⟩:=hck
          have q1:=sameG_spec q1
          have q2:=nodst_spec q2
          have q3:∀ o∈S2,o.dst≠some d:=fun o ho=>nodst_spec (q3 o ho)
          cases hch:vw X E.G b' t' p2 F2 F with
          | none=>rw [hch] at h;simp at h
          | some v =>
           rw [hch] at h
           dsimp only at h
           cases hr2:runN X E.G f d b (td U p2) rest2 ((zB S2 F).set p2.dst v) H with
           | none=>rw [hr2] at h;simp at h
           | some r =>
            obtain ⟨c3,F3,p3,rest3,S3⟩:=r
            rw [hr2] at h
            simp only [Option.some.injEq,Prod.mk.injEq] at h
            obtain ⟨rfl,rfl,rfl,rfl,rfl⟩:=h
            obtain ⟨i1,⟨x,y,hpop⟩,i3,i4,i5,i6⟩:=runN_sound hXs f d' b' [] (o :: l) F hr
            obtain ⟨j1,j2,j3,j4,j5,j6⟩:=runN_sound hXs f d b (td U p2) rest2 _ hr2
            refine ⟨by rw [i1,j1];simp,j2,?_,fun t ht=>?_,fun o' ho'=>?_,fun hc hd hA=>?_⟩
            · exact (i3.lift (U':=U) hUm (fun u hu=>by cases hu) q3).app (U':=U) (fun u hu=>.inl hu) ⟨.inl q1,quiet_bad q4,q2,j3⟩
            · rw [j4 t fun o' ho'=>ht o' (by simp [ho']),AFr.get_set,if_neg (ht p2 (by simp)),wt S2 F t fun o' ho'=>ht o' (by simp [ho'])]
            · rcases List.mem_append.1 ho' with ho' | ho'
              · exact q3 o' ho'
              · rcases List.mem_cons.1 ho' with rfl | ho'
                · exact q2
                · exact j5 o' ho'
            · have hc:=yq hc
              have hgo:=j6 hc.2 (by rw [AFr.get_set,if_neg q2,wt S2 F d q3];exact hd) hA
              have weak:∀ F':AFr,(∀ t,(zB S2 F).get t=F'.get t∨(zB S2 F).get t=.undef)→AOps E n N rest2 (F'.set p2.dst v) H Q:=by
               intro F' hF'
               refine AOps.weak (fun t=>?_) hgo
               rw [AFr.get_set,AFr.get_set]
               split
               · exact .inl rfl
               · exact hF' t
              have hwant:∀ F':AFr,F'.get d=.val (.bool b)→zK F' p2.guard=some true:=by
               intro F' hF';rw [q1];simp only [zK,hF'];cases b<;>rfl
              cases htb:(t' == b') with
              | true =>
               have e:t'=b':=by simpa using htb
               subst e
               have hc1:c1.ok:=uF hc.1 (by subst hXs;cases t'<;>rfl)
               refine i6 hc1 hv (xm (hwant _ (by rw [i4 d q3];exact hd)) (c:=true) (v:=v) (H1:=H) (chosen_run hXs (F1':=F2) htb hpop hch (fun t=>.inl rfl) (by rw [i4 d' i5];exact hv)) rfl (weak F2 fun t=>?_))
               rcases uM S2 F t with e | ⟨e,e2⟩
               · exact .inr e
               · exact .inl (by rw [e,i4 t e2])
              | false =>
               rw [i1]
               refine skl_skip htb S2 [] F i3 (fun u hu=>by cases hu) hv (by simp) fun F' hF'=>?_
               have hFd:∀ u,(∀ o∈S2,o.dst≠some u)→∀ w,F.get u=.val w→F'.get u=.val w:=fun u hu w hw=>by
                rcases hF' u with e | e
                · rw [← e,wt S2 F u hu];exact hw
                · rw [wt S2 F u hu,hw] at e;cases e
               exact xm (hwant _ (hFd d q3 _ hd)) (c:=true) (v:=v) (H1:=H) (chosen_skip hXs htb hpop hch (hFd d' i5 _ hv)) rfl (weak F' hF')
      | _=>simp at h
     | _=>rw [hv] at h;simp at h
end
section
variable {E:Env} {n N:Nat} {H:zz} {Q:zL→AFr→zz→Prop} {k:List KI} {F:AFr}
def litG (S:List AOper) (F:AFr) (g:Option (Nat × Bool)):Bool:=match g with
 | none=>true
 | some (d,b)=>match F.get d with
  | .val (.bool t)=>(t == b) && S.all (uJ d)
  | _=>false
theorem litG_spec {S:List AOper} {F F':AFr} {g:Option (Nat × Bool)} (h:litG S F g=true) (hF:∀ d,(∀ o∈S,o.dst≠some d)→∀ w,F.get d=.val w→F'.get d=.val w):zK F' g=some true:=by
 unfold litG at h
 split at h
 · rfl
 · rename_i d b
   split at h
   · rename_i t ht
     simp only [Bool.and_eq_true,beq_iff_eq,List.all_eq_true] at h
     have:=hF d (fun o ho=>nodst_spec (h.2 o ho)) _ ht
     simp only [zK,this,h.1];cases b<;>rfl
   · cases h
def runT2 (X:y4) (G:Nat→AV) (l:List AOper) (F:AFr) (H:zz):Option (Cd × List AOper × AFr) :=
 match l with
 | []=>none
 | o :: l=>match o.guard with
  | none=>none
  | some (d,b)=>match F.get d with
   | .val (.bool t)=>match runN X G 1000 d b [] (o :: l) F H with
    | some (c,F1,p,rest,S)=>match litG S F p.guard with
     | false=>none
     | true=>match vw X G b t p F1 F with
      | some v=>some (tB (cond b t (X.bNot t)) c,rest,(zB S F).set p.dst v)
      | none=>none
    | none=>none
   | _=>none
theorem ns_go {X:y4} (hXs:X=std) {l rest:List AOper} {c:Cd} {F':AFr} (he:runT2 X E.G l F H=some (c,rest,F')) (hc:c.ok) (h:Holds E n N Q (.ops rest) k F' H):Holds E n N Q (.ops l) k F H:=by
 unfold runT2 at he
 split at he
 · cases he
 · rename_i o l
   split at he
   · cases he
   · rename_i d b hg
     split at he
     · rename_i t hd
       split at he
       · rename_i c1 F1 p rest1 S hr
         cases hpg:litG S F p.guard with
         | false=>rw [hpg] at he;cases he
         | true =>
          rw [hpg] at he
          dsimp only at he
          split at he
          · rename_i v hch
            simp only [Option.some.injEq,Prod.mk.injEq] at he
            obtain ⟨rfl,rfl,rfl⟩:=he
            obtain ⟨i1,⟨x,y,hpop⟩,i3,i4,i5,i6⟩:=runN_sound (E:=E) (n:=n) (N:=N) (Q:=uP E n N Q k .normal) hXs 1000 d b [] (o :: l) F hr
            have weak:∀ F':AFr,(∀ t,(zB S F).get t=F'.get t∨(zB S F).get t=.undef)→AOps E n N rest1 (F'.set p.dst v) H (uP E n N Q k .normal):=by
             intro F' hF'
             refine AOps.weak (fun t=>?_) h
             rw [AFr.get_set,AFr.get_set]
             split
             · exact .inl rfl
             · exact hF' t
            cases htb:(t == b) with
            | true =>
             have e:t=b:=by simpa using htb
             subst e
             have hc1:c1.ok:=uF hc (by subst hXs;cases t<;>rfl)
             refine i6 hc1 hd (xm (litG_spec hpg fun u hu w hw=>by rw [i4 u hu];exact hw) (c:=true) (v:=v) (H1:=H) (chosen_run hXs (F1':=F1) htb hpop hch (fun t=>.inl rfl) (by rw [i4 d i5];exact hd)) rfl (weak F1 fun t=>?_))
             rcases uM S F t with e | ⟨e,e2⟩
             · exact .inr e
             · exact .inl (by rw [e,i4 t e2])
            | false =>
             show AOps E n N (o :: l) F H _
             rw [i1]
             refine skl_skip htb S [] F i3 (fun u hu=>by cases hu) hd (by simp) fun F' hF'=>?_
             have hFu:∀ u,(∀ o∈S,o.dst≠some u)→∀ w,F.get u=.val w→F'.get u=.val w:=fun u hu w hw=>by
              rcases hF' u with e | e
              · rw [← e,wt S F u hu];exact hw
              · rw [wt S F u hu,hw] at e;cases e
             exact xm (litG_spec hpg hFu) (c:=true) (v:=v) (H1:=H) (chosen_skip hXs htb hpop hch (hFu d i5 _ hd)) rfl (weak F' hF')
          · cases he
       · cases he
     · cases he
end
end Go.Am
end
section
namespace Go.Am
open Go.ChangeShapes Go.WideShapes Go.ChangeAt Go.RowKit
mutual
def xr {H:Type}:DataW H→Nat
 | .lit (.string bytes)=>bytes.length+1
 | .lit _=>1
 | .nil=>1
 | .ptr d=>xr d+1
 | .slice elems spare=>dBulkAll elems+dBulkAll spare+1
 | .agg parts=>dBulkAll parts+1
 | .iface _ d=>xr d+1
 | .map entries=>dBulkEntries entries+1
 | .held _=>1
def dBulkAll {H:Type}:List (DataW H)→Nat
 | []=>0
 | d :: r=>xr d+dBulkAll r
def dBulkEntries {H:Type}:List (Lit × DataW H)→Nat
 | []=>0
 | x :: r=>dBulkEntry x+dBulkEntries r
def dBulkEntry {H:Type}:Lit × DataW H→Nat
 | (.string bytes,d)=>bytes.length+xr d+1
 | (_,d)=>xr d+1
end
mutual
def AV.bulk : AV→Nat
 | .isl _ es=>AV.bulkL es+1
 | .agg cs=>AV.bulkL cs+1
 | .val (.string s)=>s.size+1
 | _=>1
def AV.bulkL : List AV→Nat
 | []=>0
 | c :: cs=>AV.bulk c+AV.bulkL cs
end
theorem bulkL_append (a b:List AV):AV.bulkL (a++b)=AV.bulkL a+AV.bulkL b:=by
 induction a with
 | nil=>simp [AV.bulkL]
 | cons x a ih=>simp only [List.cons_append,AV.bulkL,ih];omega
theorem dBulk_pos {H:Type} (d:DataW H):1≤xr d:=by
 cases d with
 | lit l=>cases l<;>simp [xr]
 | _=>simp [xr]
theorem dBulkAll_append {H:Type} (a b:List (DataW H)):dBulkAll (a++b)=dBulkAll a+dBulkAll b:=by
 induction a with
 | nil=>simp [dBulkAll]
 | cons x a ih=>simp only [List.cons_append,dBulkAll,ih];omega
section
variable (P:Program)
def wS (t:TypeId):Bool :=
 match P.underlying t with
 | some d=>xf d
 | none=>false
def El (c:TypeId→List AV→Prop) (e:TypeId) (x:AV):Prop :=
 if wS P e then ∃ cs,x=.agg cs∧c e cs else x.cells=[x]∧c e [x]
def Cl : Nat→TypeId→List AV→Prop
 | 0,_,_=>False
 | n+1,t,cs=>match P.underlying t with
  | some .bool=>∃ b,cs=[.val (.bool b)]
  | some (.int k)=>∃ i,cs=[.val (.int k i)]∧(Lit.int k i).wf=true
  | some .string=>∃ s:ByteArray,cs=[.val (.string s)]∧s.size≤reachBytes
  | some (.slice e)=>∃ es,cs=[.isl (P.cellsOf e) es]∧es.length * P.bytesOf e≤reachBytes∧∀ x∈es,El P (Cl n) e x
  | some (.struct fs)=>∃ css:List (List AV),cs=css.flatten∧css.length=fs.size∧∀ (i:Nat) f c,fs[i]? = some f→css[i]? = some c→Cl n f.type c
  | some (.array m e)=>∃ css:List (List AV),cs=css.flatten∧css.length=m∧∀ c∈css,Cl n e c
  | _=>cs=[.undef]
end
theorem Cl.single {P:Program} {n:Nat} {t:TypeId} {cs:List AV} (h:Cl P n t cs) (ha:wS P t=false):∃ x:AV,cs=[x]∧x.cells=[x]:=by
 cases n with
 | zero=>exact h.elim
 | succ n =>
  unfold wS at ha
  unfold Cl at h
  cases hu:P.underlying t with
  | none=>rw [hu] at h;exact ⟨_,h,rfl⟩
  | some d =>
   rw [hu] at h ha
   cases d with
   | bool=>obtain ⟨b,rfl⟩:=h;exact ⟨_,rfl,rfl⟩
   | int k=>obtain ⟨b,rfl,_⟩:=h;exact ⟨_,rfl,rfl⟩
   | string=>obtain ⟨b,rfl,_⟩:=h;exact ⟨_,rfl,rfl⟩
   | slice e=>obtain ⟨b,rfl,_⟩:=h;exact ⟨_,rfl,rfl⟩
   | struct fs=>simp [xf] at ha
   | array m e=>simp [xf] at ha
   | _=>exact ⟨_,h,rfl⟩
structure Rd {H:Type} (P:Program) (C:Ctx) (w:World) (n:Nat) (t:TypeId) (vs:List Value) (d:DataW H) (cs:List AV):Prop where
 cl:Cl P n t cs
 len:cs.length=vs.length
 rep:∀ (j:Nat) c y,cs[j]? = some c→vs[j]? = some y→VRep C 0 w c y
 bulk:AV.bulkL cs+(if wS P t then 1 else 0)≤xr d
theorem cells?_get {w:World} {base n:Nat} {a:Addr} {vs:List Value} (h:w.cells? base a n=some vs):vs.length=n∧∀ j,j<n→w.cell? (a.add j)=vs[j]?:=by
 unfold World.cells? at h
 split at h
 · exact ⟨by simpa using mapM_some_length h,fun j hj=>mapM_some_get h j j (by simp [hj])⟩
 · cases h
theorem spot_none {w:World} {a:Addr} {v:Value} (h:w.cell? a=some v):a.spot=none∧a.block<w.heap.size:=by
 unfold World.cell? at h
 split at h
 · rename_i c _ _ hh
   refine ⟨?_,(Array.getElem?_eq_some_iff.1 hh).1⟩
   cases hs:a.spot with
   | none=>rfl
   | some s=>rw [hs] at h;simp at h
 · cases h
theorem add_none {a:Addr} (h:a.spot=none) (i j:Nat):(a.add i).add j=⟨a.block,a.off+(i+j),none⟩:=by
 obtain ⟨b,o,s⟩:=a
 simp only at h;subst h
 unfold Addr.add
 by_cases h1:i=0<;>by_cases h2:j=0<;>simp [h1,h2,Nat.add_assoc]
theorem piece_flatten {vs:List Value}:∀ (css:List (List AV)) (offs:List Nat) (R:AV→Value→Prop) (o:Nat),offs.length=css.length→(∀ (i:Nat) c f,css[i]? = some c→offs[i]? = some f→f=o+((css.take i).map List.length).sum) →
 (∀ (i:Nat) c f,css[i]? = some c→offs[i]? = some f→∀ (j:Nat) x y,c[j]? = some x→((vs.drop f).take c.length)[j]? = some y→R x y)→∀ (j:Nat) x y,css.flatten[j]? = some x→(vs.drop o)[j]? = some y→R x y
 | [],_,_,_,_,_,_,j,x,y,hx,_=>by simp at hx
 | c :: css,[],_,_,hl,_,_,_,_,_,_,_=>by simp at hl
 | c :: css,f :: offs,R,o,hl,ho,hR,j,x,y,hx,hy=>by
  have hf:f=o:=by simpa using ho 0 c f rfl rfl
  rw [List.flatten_cons] at hx
  by_cases hj:j<c.length
  · rw [List.getElem?_append_left hj] at hx
    refine hR 0 c f rfl rfl j x y hx ?_
    rw [hf,List.getElem?_take_of_lt hj]
    exact hy
  · rw [List.getElem?_append_right (by omega)] at hx
    refine piece_flatten css offs R (o+c.length) (by simpa using hl) (fun i c' f' hc hf'=>?_) (fun i c' f' hc hf'=>hR (i+1) c' f' (by simpa using hc) (by simpa using hf')) (j - c.length) x y hx ?_
    · have:=ho (i+1) c' f' (by simpa using hc) (by simpa using hf')
      rw [List.take_succ_cons,List.map_cons,List.sum_cons] at this;omega
    · rw [List.getElem?_drop] at hy ⊢
      rw [← hy];congr 1;omega
theorem sum_take_le (ks:List Nat) (i:Nat) (k:Nat) (h:ks[i]? = some k):(ks.take i).sum+k≤ks.sum:=by
 induction ks generalizing i with
 | nil=>simp at h
 | cons x ks ih =>
  cases i with
  | zero=>simp at h;subst h;simp
  | succ i=>have:=ih i (by simpa using h);simp only [List.take_succ_cons,List.sum_cons];omega
theorem pieces {H:Type} {P:Program} {C:Ctx} {w:World} {vs:List Value} {n:Nat} (ks:List Nat) (ts:List TypeId) (ds:List (DataW H)) (css:List (List AV)) (hl:css.length=ks.length) (hd:ds.length=ks.length) (ht:ts.length=ks.length) (hs:vs.length=ks.sum)
 (h:∀ (i:Nat) k t d c,ks[i]? = some k→ts[i]? = some t→ds[i]? = some d→css[i]? = some c→Rd P C w n t ((vs.drop (ks.take i).sum).take k) d c) :
 css.flatten.length=vs.length∧(∀ (j:Nat) c y,css.flatten[j]? = some c→vs[j]? = some y→VRep C 0 w c y)∧AV.bulkL css.flatten≤dBulkAll ds:=by
 have hlen:∀ (i:Nat) k c,ks[i]? = some k→css[i]? = some c→c.length=k:=by
  intro i k c hk hc
  obtain ⟨t,ht'⟩:∃ t,ts[i]? = some t:=⟨_,List.getElem?_eq_getElem (by have:=(List.getElem?_eq_some_iff.1 hk).1;omega)⟩
  obtain ⟨d,hd'⟩:∃ d,ds[i]? = some d:=⟨_,List.getElem?_eq_getElem (by have:=(List.getElem?_eq_some_iff.1 hk).1;omega)⟩
  have:=(h i k t d c hk ht' hd' hc).len
  have h2:=sum_take_le ks i k hk
  simp at this;omega
 have hmap:css.map List.length=ks:=by
  apply List.ext_getElem?
  intro i
  rw [List.getElem?_map]
  cases hc:css[i]? with
  | none=>simp at hc;simp;omega
  | some c =>
   obtain ⟨k,hk⟩:∃ k,ks[i]? = some k:=⟨_,List.getElem?_eq_getElem (by have:=(List.getElem?_eq_some_iff.1 hc).1;omega)⟩
   rw [hk];simp [hlen i k c hk hc]
 refine ⟨by rw [List.length_flatten,hmap,hs],fun j c y hc hy=>?_,?_⟩
 · refine piece_flatten css ((List.range css.length).map fun i=>(ks.take i).sum) (VRep C 0 w) 0 (by simp) (fun i c f hc hf=>?_) (fun i c f hc hf j x y hx hy=>?_) j c y hc (by simpa using hy)
   · have hi:i<css.length:=(List.getElem?_eq_some_iff.1 hc).1
     simp [hi] at hf;subst hf
     rw [← hmap,List.map_take];simp
   · have hi:i<css.length:=(List.getElem?_eq_some_iff.1 hc).1
     simp [hi] at hf;subst hf
     obtain ⟨k,hk⟩:∃ k,ks[i]? = some k:=⟨_,List.getElem?_eq_getElem (by omega)⟩
     obtain ⟨t,ht'⟩:∃ t,ts[i]? = some t:=⟨_,List.getElem?_eq_getElem (by omega)⟩
     obtain ⟨d,hd'⟩:∃ d,ds[i]? = some d:=⟨_,List.getElem?_eq_getElem (by omega)⟩
     rw [hlen i k c hk hc] at hy
     exact (h i k t d c hk ht' hd' hc).rep j x y hx hy
 · clear hmap hlen
   have hb:∀ (i:Nat) c d,css[i]? = some c→ds[i]? = some d→AV.bulkL c≤xr d:=by
    intro i c d hc hd'
    have hi:i<css.length:=(List.getElem?_eq_some_iff.1 hc).1
    obtain ⟨k,hk⟩:∃ k,ks[i]? = some k:=⟨_,List.getElem?_eq_getElem (by omega)⟩
    obtain ⟨t,ht'⟩:∃ t,ts[i]? = some t:=⟨_,List.getElem?_eq_getElem (by omega)⟩
    have:=(h i k t d c hk ht' hd' hc).bulk
    omega
   have hl':css.length=ds.length:=by omega
   clear h hl hd ht hs
   induction css generalizing ds with
   | nil=>simp [AV.bulkL]
   | cons c css ih =>
    cases ds with
    | nil=>simp at hl'
    | cons d ds =>
     rw [List.flatten_cons,bulkL_append]
     have:=hb 0 c d rfl rfl
     have:=ih ds (fun i c d hc hd'=>hb (i+1) c d (by simpa using hc) (by simpa using hd')) (by simpa using hl')
     simp only [dBulkAll];omega
theorem Rd.elem {H:Type} {P:Program} {C:Ctx} {w:World} {n:Nat} {t:TypeId} {vs:List Value} {d:DataW H} {cs:List AV} (h:Rd P C w n t vs d cs):∃ x:AV,x.cells=cs∧El P (Cl P n) t x∧x.bulk≤xr d:=by
 unfold El
 have hb:=h.bulk
 by_cases ha:wS P t=true
 · refine ⟨.agg cs,rfl,by rw [if_pos ha];exact ⟨cs,rfl,h.cl⟩,?_⟩
   rw [if_pos ha] at hb
   simpa [AV.bulk] using hb
 · obtain ⟨x,rfl,hx⟩:=h.cl.single (by simpa using ha)
   refine ⟨x,hx,by rw [if_neg ha];exact ⟨hx,h.cl⟩,?_⟩
   rw [if_neg ha] at hb
   simpa [AV.bulkL] using hb
theorem list_of {α:Type} [Inhabited α] {n:Nat} {p:Nat→α→Prop} (h:∀ i,i<n→∃ x,p i x):∃ l:List α,l.length=n∧∀ (i:Nat) x,l[i]? = some x→p i x:=by
 induction n with
 | zero=>exact ⟨[],rfl,fun i x hx=>by simp at hx⟩
 | succ n ih =>
  obtain ⟨l,hl,hp⟩:=ih fun i hi=>h i (by omega)
  obtain ⟨x,hx⟩:=h n (by omega)
  refine ⟨l++[x],by simp [hl],fun i y hy=>?_⟩
  by_cases hi:i<n
  · rw [List.getElem?_append_left (by omega)] at hy;exact hp i y hy
  · rw [List.getElem?_append_right (by omega)] at hy
    have:i=n:=by
     have:=(List.getElem?_eq_some_iff.1 hy).1
     simp at this;omega
    subst this
    simp [hl] at hy;subst hy;exact hx
theorem weightsAll_mem {H:Type} {P:Program} {e:TypeId} {d:DataW H} {m:Nat}:∀ {l:List (DataW H)},d∈l→m∈d.weights P e→m∈DataW.weightsAll P e l
 | x :: l,h,hm=>by
  simp only [DataW.weightsAll,List.mem_append]
  rcases List.mem_cons.1 h with rfl | h
  · exact .inl hm
  · exact .inr (weightsAll_mem h hm)
theorem weightsEach_mem {H:Type} {P:Program} {t:TypeId} {d:DataW H} {m:Nat}:∀ {ts:List TypeId} {l:List (DataW H)} {i:Nat},ts[i]? = some t→l[i]? = some d→m∈d.weights P t→m∈DataW.weightsEach P ts l
 | [],_,_,h,_,_=>by simp at h
 | _ :: _,[],_,_,h,_=>by simp at h
 | t' :: ts,x :: l,0,h1,h2,hm=>by
  simp at h1 h2;subst h1;subst h2
  simp only [DataW.weightsEach,List.mem_append];exact .inl hm
 | t' :: ts,x :: l,i+1,h1,h2,hm=>by
  simp only [DataW.weightsEach,List.mem_append];exact .inr (weightsEach_mem (by simpa using h1) (by simpa using h2) hm)
theorem read_cells {H:Type} {enc:TypeId × Value→H} {P:Program} {T:TypeId→Prop} (K:Kids P T) (hz:∀ t e,T t→P.underlying t=some (.slice e)→0<P.cellsOf e) {C:Ctx} {w:World} (hI:∀ b,b<w.heap.size→C.I b) {sp:Nat→Bool} {hd:Bool} :
 ∀ (n:Nat) (t:TypeId) (vs:List Value) (x:DataW H × List MemPlace),T t→DataW.trod enc P w 0 sp hd n t vs=some x→(∀ m∈x.1.weights P t,m≤reachBytes)→∃ cs,Rd P C w n t vs x.1 cs:=by
 intro n
 induction n with
 | zero=>intro t vs x _ h;simp [DataW.trod] at h
 | succ n ih =>
  intro t vs x hT h hwt
  have one:∀ (c:AV) (v:Value) (d:DataW H),Cl P (n+1) t [c]→VRep C 0 w c v→c.bulk≤xr d→wS P t=false→Rd P C w (n+1) t [v] d [c]:=by
   intro c v d h1 h2 h3 h4
   refine ⟨h1,rfl,fun j c' y hc hy=>?_,by rw [h4];simpa [AV.bulkL] using h3⟩
   cases j with
   | zero=>simp at hc hy;subst hc;subst hy;exact h2
   | succ j=>simp at hc
  cases hu:P.underlying t with
  | none=>exfalso;unfold DataW.trod at h;rw [hu] at h;simp at h
  | some d =>
   have other:Cl P (n+1) t [.undef]→xf d=false→(∃ v,vs=[v])→∃ cs,Rd P C w (n+1) t vs x.1 cs:=by
    rintro h1 h2 ⟨v,rfl⟩
    exact ⟨_,one .undef v x.1 h1 (.undef _) (dBulk_pos _) (by simp [wS,hu,h2])⟩
   cases d with
   | bool =>
    obtain ⟨b,rfl,rfl⟩:=DataW.trod_bool hu h
    exact ⟨_,one (.val (.bool b)) _ _ (by simp [Cl,hu]) (.val _ (by intro cs;simp)) (dBulk_pos _) (by simp [wS,hu,xf])⟩
   | int k =>
    obtain ⟨b,rfl,rfl,hw⟩:=DataW.trod_int hu h
    exact ⟨_,one (.val (.int k b)) _ _ (by simp [Cl,hu,hw]) (.val _ (by intro cs;simp)) (dBulk_pos _) (by simp [wS,hu,xf])⟩
   | string =>
    obtain ⟨b,rfl,rfl,hw⟩:=DataW.trod_string hu h
    exact ⟨_,one (.val (.string b)) _ _ (by simp only [Cl,hu];exact ⟨b,rfl,by have:=hwt b.data.toList.length (by simp [DataW.weights]);rwa [Array.length_toList] at this⟩) (.val _ (by intro cs;simp)) (by rw [AV.bulk];simp only [xr,Array.length_toList];exact Nat.le_refl _) (by simp [wS,hu,xf])⟩
   | slice e =>
    have hk:=hz t e hT hu
    rcases DataW.trod_slice hu h with ⟨rfl,rfl⟩ | ⟨a,len,cap,elems,rest,m,hm,rfl,rfl,hb,hl,hc,hlen,hel,_,_⟩
    · exact ⟨_,one (.isl (P.cellsOf e) []) _ _ (by simp [Cl,hu]) (.islnil _) (by simp [AV.bulk,AV.bulkL,xr]) (by simp [wS,hu,xf])⟩
    · obtain rfl:n=m:=by omega
      have hex:∀ i,i<len→∃ e':AV,∃ (vs':List Value) (y:DataW H × List MemPlace) (cs:List AV),w.cells? 0 (a.add (i * P.cellsOf e)) (P.cellsOf e)=some vs'∧elems[i]? = some y∧Rd P C w n e vs' y.1 cs∧e'.cells=cs∧El P (Cl P n) e e'∧e'.bulk≤xr y.1:=by
       intro i hi
       have h1:=hel i hi
       obtain ⟨y,hy⟩:∃ y,elems[i]? = some y:=⟨_,List.getElem?_eq_getElem (by omega)⟩
       rw [hy] at h1
       obtain ⟨vs',h2,h3⟩:=Option.bind_eq_some_iff.1 h1
       obtain ⟨cs,hr⟩:=ih e vs' y (K.slice hT hu) h3 (fun m hm=>hwt m (by
        simp only [DataW.weights,hu]
        exact List.mem_cons_of_mem _ (List.mem_append_left _ (weightsAll_mem (List.mem_map.2 ⟨y,List.mem_of_getElem? hy,rfl⟩) hm))))
       obtain ⟨e',g1,g2,g3⟩:=hr.elem
       exact ⟨e',vs',y,cs,h2,hy,hr,g1,g2,g3⟩
      obtain ⟨es,hes,hp⟩:=list_of hex
      refine ⟨_,one (.isl (P.cellsOf e) es) _ _ ?_ ?_ ?_ (by simp [wS,hu,xf])⟩
      · simp only [Cl,hu]
        refine ⟨es,rfl,?_,fun x hx=>?_⟩
        · have:=hwt (((elems.map (·.1)).length+(rest.map (·.1)).length) * P.bytesOf e) (by simp only [DataW.weights,hu];exact List.mem_cons_self)
          refine Nat.le_trans (Nat.mul_le_mul_right _ ?_) this
          simp only [List.length_map];omega
        obtain ⟨i,hi,rfl⟩:=List.getElem_of_mem hx
        obtain ⟨_,_,_,_,_,_,_,h5,_⟩:=hp i _ (List.getElem?_eq_getElem hi)
        exact h5
      · have cell:∀ (i:Nat) e' (j:Nat) c,es[i]? = some e'→e'.cells[j]? = some c→∃ v,w.cell? ((a.add (i * P.cellsOf e)).add j)=some v∧VRep C 0 w c v∧e'.cells.length=P.cellsOf e:=by
         intro i e' j c he hc
         obtain ⟨vs',y,cs,h1,h2,h3,h4,h5,h6⟩:=hp i e' he
         obtain ⟨g1,g2⟩:=cells?_get h1
         rw [h4] at hc ⊢
         have hj:j<cs.length:=(List.getElem?_eq_some_iff.1 hc).1
         have hjl:=h3.len
         obtain ⟨v,hv⟩:∃ v,vs'[j]? = some v:=⟨_,List.getElem?_eq_getElem (by omega)⟩
         refine ⟨v,?_,h3.rep j c v hc hv,by omega⟩
         rw [g2 j (by omega),hv]
        have hlenk:∀ (i:Nat) e',es[i]? = some e'→e'.cells.length=P.cellsOf e:=by
         intro i e' he
         obtain ⟨vs',y,cs,h1,h2,h3,h4,h5,h6⟩:=hp i e' he
         rw [h4,h3.len];exact (cells?_get h1).1
        have hne:es≠[]→C.I a.block∧a.spot=none:=by
         intro hne
         obtain ⟨e',he⟩:∃ e',es[0]? = some e':=⟨_,List.getElem?_eq_getElem (List.length_pos_iff.2 hne)⟩
         obtain ⟨c,hc⟩:∃ c,e'.cells[0]? = some c:=⟨_,List.getElem?_eq_getElem (by rw [hlenk 0 e' he];exact hk)⟩
         obtain ⟨v,hv,_⟩:=cell 0 e' 0 c he hc
         have e0:(a.add (0 * P.cellsOf e)).add 0=a:=by simp [Addr.add]
         rw [e0] at hv
         have:=spot_none hv
         exact ⟨hI _ this.2,this.1⟩
        rw [← hes]
        rw [← hes] at hl
        refine .isl (P.cellsOf e) es (fun i j=>(w.cell? ⟨a.block,a.off+(i * P.cellsOf e+j),none⟩).getD undef) a cap hl hne hlenk (fun i e' j c he hc=>?_) (fun i e' j c he hc=>?_)
        all_goals
         have hne':=(hne (by rintro rfl;simp at he)).2
         obtain ⟨v,hv,hr,_⟩:=cell i e' j c he hc
         rw [add_none hne'] at hv
         rw [hv]
        · rfl
        · exact hr
      · simp only [AV.bulk,xr]
        have:AV.bulkL es≤dBulkAll (elems.map (·.1)):=by
         have hb:∀ (i:Nat) e' y,es[i]? = some e'→elems[i]? = some y→e'.bulk≤xr y.1:=by
          intro i e' y he hy
          obtain ⟨vs',y',cs,h1,h2,h3,h4,h5,h6⟩:=hp i e' he
          rw [hy] at h2;cases h2;exact h6
         have hll:es.length=elems.length:=by omega
         clear hp hes hel hex hlen h one other hl hwt
         induction es generalizing elems with
         | nil=>simp [AV.bulkL]
         | cons e' es ih' =>
          cases elems with
          | nil=>simp at hll
          | cons y elems =>
           have:=hb 0 e' y rfl rfl
           have:=ih' elems (fun i e' y he hy=>hb (i+1) e' y (by simpa using he) (by simpa using hy)) (by simpa using hll)
           simp only [AV.bulkL,List.map_cons,dBulkAll];omega
        omega
   | struct fs =>
    obtain ⟨xs,m,hm,rfl,hcl,hxs,hf⟩:=DataW.trod_struct hu h
    obtain rfl:n=m:=by omega
    obtain ⟨hk1,hk2,hk3⟩:=K.struct hT hu
    have hex:∀ i,i<fs.size→∃ c:List AV,∃ (f:Field) (y:DataW H × List MemPlace),fs[i]? = some f∧xs[i]? = some y∧Rd P C w n f.type ((vs.drop f.offset).take (P.cellsOf f.type)) y.1 c:=by
     intro i hi
     obtain ⟨f,hfi⟩:∃ f,fs[i]? = some f:=⟨_,Array.getElem?_eq_getElem hi⟩
     obtain ⟨y,hy⟩:∃ y,xs[i]? = some y:=⟨_,List.getElem?_eq_getElem (by omega)⟩
     have h1:=hf i f hfi
     rw [hy] at h1
     obtain ⟨cs,hr⟩:=ih f.type _ y (hk1 f (by rw [List.mem_iff_getElem?];exact ⟨i,by simpa using hfi⟩)) h1 (fun m hm=>hwt m (by
      simp only [DataW.weights,hu]
      exact weightsEach_mem (i:=i) (by rw [List.getElem?_map];simp [hfi]) (by rw [List.getElem?_map,hy];rfl) hm))
     exact ⟨cs,f,y,hfi,hy,hr⟩
    obtain ⟨css,hcs,hp⟩:=list_of hex
    have hR:∀ (i:Nat) k t d c,(fs.toList.map fun f=>P.cellsOf f.type)[i]? = some k→(fs.toList.map (·.type))[i]? = some t→(xs.map (·.1))[i]? = some d→css[i]? = some c→Rd P C w n t ((vs.drop ((fs.toList.map fun f=>P.cellsOf f.type).take i).sum).take k) d c:=by
     intro i k t d c h1 h2 h3 h4
     obtain ⟨f,y,g1,g2,g3⟩:=hp i c h4
     have hfl:fs.toList[i]? = some f:=by simpa using g1
     rw [List.getElem?_map,hfl] at h1 h2
     rw [List.getElem?_map,g2] at h3
     simp at h1 h2 h3;subst h1;subst h2;subst h3
     have:=hk3 i f hfl
     rw [List.map_take] at this
     rw [← this];exact g3
    obtain ⟨a1,a2,a3⟩:=pieces (n:=n) (fs.toList.map fun f=>P.cellsOf f.type) (fs.toList.map (·.type)) (xs.map (·.1)) css (by simp [hcs]) (by simp [hxs]) (by simp) (by rw [hcl,hk2]) hR
    refine ⟨css.flatten,?_,a1,a2,?_⟩
    · simp only [Cl,hu]
      refine ⟨css,rfl,hcs,fun i f c hfi hc=>?_⟩
      obtain ⟨f',y,g1,g2,g3⟩:=hp i c hc
      rw [hfi] at g1;cases g1;exact g3.cl
    · simp only [wS,hu,xf,if_true,xr];omega
   | array m e =>
    obtain ⟨xs,m',hm,rfl,hcl,hxs,hf⟩:=DataW.trod_array hu h
    obtain rfl:n=m':=by omega
    obtain ⟨hk1,hk2⟩:=K.array hT hu
    have hex:∀ i,i<m→∃ c:List AV,∃ (y:DataW H × List MemPlace),xs[i]? = some y∧Rd P C w n e ((vs.drop (i * P.cellsOf e)).take (P.cellsOf e)) y.1 c:=by
     intro i hi
     obtain ⟨y,hy⟩:∃ y,xs[i]? = some y:=⟨_,List.getElem?_eq_getElem (by omega)⟩
     have h1:=hf i hi
     rw [hy] at h1
     obtain ⟨cs,hr⟩:=ih e _ y hk1 h1 (fun m hm=>hwt m (by
      simp only [DataW.weights,hu]
      exact weightsAll_mem (List.mem_map.2 ⟨y,List.mem_of_getElem? hy,rfl⟩) hm))
     exact ⟨cs,y,hy,hr⟩
    obtain ⟨css,hcs,hp⟩:=list_of hex
    have hsum:∀ i,i≤m→((List.replicate m (P.cellsOf e)).take i).sum=i * P.cellsOf e:=by
     intro i hi
     rw [List.take_replicate];simp [Nat.min_eq_left hi]
    have hR:∀ (i:Nat) k t d c,(List.replicate m (P.cellsOf e))[i]? = some k→(List.replicate m e)[i]? = some t→(xs.map (·.1))[i]? = some d→css[i]? = some c→Rd P C w n t ((vs.drop ((List.replicate m (P.cellsOf e)).take i).sum).take k) d c:=by
     intro i k t d c h1 h2 h3 h4
     obtain ⟨y,g2,g3⟩:=hp i c h4
     have hi:i<m:=by have:=(List.getElem?_eq_some_iff.1 h4).1;omega
     rw [List.getElem?_map,g2] at h3
     simp [hi] at h1 h2 h3;subst h1;subst h2;subst h3
     rw [hsum i (by omega)];exact g3
    obtain ⟨a1,a2,a3⟩:=pieces (n:=n) (List.replicate m (P.cellsOf e)) (List.replicate m e) (xs.map (·.1)) css (by simp [hcs]) (by simp [hxs]) (by simp) (by rw [hcl,hk2];simp) hR
    refine ⟨css.flatten,?_,a1,a2,?_⟩
    · simp only [Cl,hu]
      refine ⟨css,rfl,hcs,fun c hc=>?_⟩
      obtain ⟨i,hi,rfl⟩:=List.getElem_of_mem hc
      obtain ⟨y,g2,g3⟩:=hp i _ (List.getElem?_eq_getElem hi)
      exact g3.cl
    · simp only [wS,hu,xf,if_true,xr];omega
   | _=>exact other (by simp [Cl,hu]) rfl (by clear hwt ih one other hz hI K;unfold DataW.trod at h;rw [hu] at h;split at h<;>simp_all)
end Go.Am
end
