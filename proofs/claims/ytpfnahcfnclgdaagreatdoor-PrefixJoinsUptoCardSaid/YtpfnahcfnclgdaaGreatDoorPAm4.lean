/- The abstract machine that the walks of this claim are carried out on: no condition. -/
import Derived.Test.YtpfnahcfnclgdaaGreatDoorPAm3
import Derived.Orders
section
namespace Go.Am
inductive Wk (M:Nat):AV→AV→Prop
 | refl (v):Wk M v v
 | undef (v):Wk M v .undef
 | nilI (k:Nat):Wk M (.val (.slice none 0 0)) (.isl k [])
 | nilS (b k lo:Nat) (h:b<M):Wk M (.val (.slice none 0 0)) (.sl b k lo 0)
 | agg (cs cs':List AV) (hl:cs.length=cs'.length) (h:∀ (i:Nat) c c',cs[i]? = some c→cs'[i]? = some c'→Wk M c c'):Wk M (.agg cs) (.agg cs')
 | tup (cs cs':List AV) (hl:cs.length=cs'.length) (h:∀ (i:Nat) c c',cs[i]? = some c→cs'[i]? = some c'→Wk M c c'):Wk M (.tup cs) (.tup cs')
theorem Wk.rep {K:Ctx} {M:Nat} {w:World} {v v':AV} (h:Wk M v v'):∀ {y:Value},VRep K M w v y→VRep K M w v' y:=by
 induction h with
 | refl v=>exact fun h=>h
 | undef v=>exact fun _=>.undef _
 | nilI k=>intro y h;cases h;exact .islnil k
 | nilS b k lo hb=>intro y h;cases h;exact .slnil b k lo hb
 | agg cs cs' hl _ ih =>
  intro y h
  cases h with
  | agg _ ys hl2 h =>
   refine .agg cs' ys (hl ▸ hl2) fun i c' y hc hy=>?_
   obtain ⟨c,hc1⟩:∃ c,cs[i]? = some c:=⟨_,List.getElem?_eq_getElem (by have:=(List.getElem?_eq_some_iff.1 hc).1;omega)⟩
   exact ih i c c' hc1 hc (h i c y hc1 hy)
 | tup cs cs' hl _ ih =>
  intro y h
  cases h with
  | tup _ ys hl2 h =>
   refine .tup cs' ys (hl ▸ hl2) fun i c' y hc hy=>?_
   obtain ⟨c,hc1⟩:∃ c,cs[i]? = some c:=⟨_,List.getElem?_eq_getElem (by have:=(List.getElem?_eq_some_iff.1 hc).1;omega)⟩
   exact ih i c c' hc1 hc (h i c y hc1 hy)
def WkL (M:Nat):List AV→List AV→Prop
 | [],[]=>True
 | c :: cs,d :: ds=>Wk M c d∧WkL M cs ds
 | _,_=>False
theorem WkL.spec {M:Nat}:∀ {cs ds:List AV},WkL M cs ds→cs.length=ds.length∧∀ (i:Nat) c c',cs[i]? = some c→ds[i]? = some c'→Wk M c c'
 | [],[],_=>⟨rfl,fun i c c' h=>by simp at h⟩
 | c :: cs,d :: ds,h=>by
  obtain ⟨h1,h2⟩:=WkL.spec (cs:=cs) (ds:=ds) h.2
  refine ⟨by simp [h1],fun i x y hx hy=>?_⟩
  cases i with
  | zero=>simp at hx hy;subst hx hy;exact h.1
  | succ i=>exact h2 i x y hx hy
 | [],_ :: _,h=>h.elim
 | _ :: _,[],h=>h.elim
theorem WkL.refl (M:Nat):∀ cs,WkL M cs cs
 | []=>trivial
 | c :: cs=>⟨.refl c,WkL.refl M cs⟩
theorem Wk.agg' {M:Nat} {cs ds:List AV} (h:WkL M cs ds):Wk M (.agg cs) (.agg ds):=.agg _ _ h.spec.1 h.spec.2
theorem Wk.tup' {M:Nat} {cs ds:List AV} (h:WkL M cs ds):Wk M (.tup cs) (.tup ds):=.tup _ _ h.spec.1 h.spec.2
def AFr.sub (σ:Nat→Sub) (F:AFr):AFr:=F.map fun p=>(p.1,p.2.sub σ)
theorem AFr.get_sub (σ:Nat→Sub):∀ (F:AFr) (t:Nat),(F.sub σ).get t=(F.get t).sub σ
 | [],_=>by simp [AFr.sub,AFr.get,AV.sub]
 | (d,v) :: r,t=>by
  have:=AFr.get_sub σ r t
  simp only [AFr.sub,List.map_cons,AFr.get] at this ⊢
  cases Nat.beq d t<;>simp [this]
def AObj.sub (σ:Nat→Sub):AObj→AObj
 | .dead=>.dead
 | .cells cs=>.cells (AV.subL σ cs)
 | .arr k es=>.arr k (AV.subL σ es)
 | .loop F n ps a b st pd=>.loop (F.sub σ) n ps a b st pd
 | .amap es=>.amap (es.map fun p=>(p.1.sub σ,p.2.sub σ))
 | .ext j st=>.ext j st
theorem AObj.sub_live {σ:Nat→Sub} {o:AObj} (h:(o.sub σ).live):o.live:=by cases o<;>first | trivial | exact h.elim | exact False.elim h
theorem tZ {E:Env} {K K':Ctx} {M M':Nat} {w:World} {σ:Nat→Sub} (hrep:∀ v y,VRep K M w v y→VRep K' M' w (v.sub σ) y) {g:Option (Nat × Nat)} {o:AObj} (h:tF E K M w g o):tF E K' M' w g (o.sub σ):=by
 have hlies:∀ {c:Array Value} {p:Nat} {cs:List AV},vB K M w c p cs→vB K' M' w c p (AV.subL σ cs):=by
  intro c p cs hl j x hj
  rw [AV.subL_eq,List.getElem?_map] at hj
  obtain ⟨x0,hx0,rfl⟩:=Option.map_eq_some_iff.1 hj
  obtain ⟨y,g1,g2⟩:=hl j x0 hx0
  exact ⟨y,g1,hrep _ _ g2⟩
 cases h with
 | dead=>exact .dead _
 | cells blk base cs c ty hc hl=>exact .cells blk base _ c ty hc (hlies hl)
 | arr0 k=>exact .arr0 k
 | arr blk base k es c ty hc hk hl =>
  refine .arr blk base k _ c ty hc (fun i e hi=>?_) (fun i e hi=>?_)
  · rw [AV.subL_eq,List.getElem?_map] at hi
    obtain ⟨e0,he,rfl⟩:=Option.map_eq_some_iff.1 hi
    rw [AV.cells_sub,List.length_map];exact hk i e0 he
  · rw [AV.subL_eq,List.getElem?_map] at hi
    obtain ⟨e0,he,rfl⟩:=Option.map_eq_some_iff.1 hi
    have:=hlies (hl i e0 he)
    rw [AV.subL_eq,← AV.cells_sub] at this;exact this
 | loop blk base F n ps a b st pd r h1 h2 h3 h4 h5 h6 h7 h8 =>
  exact .loop blk base _ n ps a b st pd r h1 h2 h3 h4 h5 h6 h7 ⟨h8.1,fun t=>by rw [AFr.get_sub];exact hrep _ _ (h8.2 t)⟩
 | amap blk base es ents clock h1 hl he =>
  refine .amap blk base _ ents clock h1 (by simpa using hl) fun i x y hx hy=>?_
  rw [List.getElem?_map] at hx
  obtain ⟨x0,hx0,rfl⟩:=Option.map_eq_some_iff.1 hx
  exact ⟨hrep _ _ (he i x0 y hx0 hy).1,hrep _ _ (he i x0 y hx0 hy).2⟩
 | ext _ j st=>exact .ext _ j st
def FWk (M:Nat) (σ:Nat→Sub) (F:AFr):AFr→Prop
 | []=>True
 | (d,v) :: r=>Wk M ((F.get d).sub σ) v∧FWk M σ F r
theorem FWk.spec {M:Nat} {σ:Nat→Sub} {F:AFr}:∀ {F':AFr},FWk M σ F F'→∀ t,Wk M ((F.get t).sub σ) (F'.get t)
 | [],_,t=>by simp only [AFr.get];exact .undef _
 | (d,v) :: r,h,t=>by
  simp only [AFr.get]
  by_cases e:d=t
  · subst e;rw [Nat.beq_refl,cond_true];exact h.1
  · have hb:Nat.beq d t=false:=by cases hbb:Nat.beq d t with
     | false=>rfl
     | true=>exact absurd (Nat.eq_of_beq_eq_true hbb) e
    rw [hb,cond_false];exact FWk.spec h.2 t
inductive OWk (M:Nat) (σ:Nat→Sub):AObj→AObj→Prop
 | cells (cs cs') (h:WkL M (AV.subL σ cs) cs'):OWk M σ (.cells cs) (.cells cs')
 | arr (k es es') (h:WkL M (AV.subL σ es) es') (hk:∀ (i:Nat) e e',es[i]? = some e→es'[i]? = some e'→e'.cells.length=e.cells.length):OWk M σ (.arr k es) (.arr k es')
 | loop (F F' n ps a b st pd) (h:FWk M σ F F'):OWk M σ (.loop F n ps a b st pd) (.loop F' n ps a b st pd)
 | amap (es):OWk M σ (.amap es) (.amap (es.map fun p=>(p.1.sub σ,p.2.sub σ)))
inductive sM (H:zz) (M:Nat) (σ:Nat→Sub) (τ:Nat→Option Nat) (b':Nat):AObj→Prop
 | dead:sM H M σ τ b' .dead
 | none (k:Nat) (h:τ b'=none):sM H M σ τ b' (.arr k [])
 | some (b o o') (h:H[b]? = some o) (ht:τ b'=some b) (hs:σ b=.to b') (hw:OWk M σ o o'):sM H M σ τ b' o'
 | same (b o o') (h:H[b]? = some o) (ht:τ b'=some b) (hs:σ b=.to b') (he:o.sub σ=o'):sM H M σ τ b' o'
theorem lies_wk {K K':Ctx} {M M':Nat} {w:World} {σ:Nat→Sub} (hs:∀ v y,VRep K M w v y→VRep K' M' w (v.sub σ) y) {c:Array Value} {p:Nat} {cs cs':List AV} (h:vB K M w c p cs) (hl:cs.length=cs'.length) (hw:∀ (i:Nat) x x',cs[i]? = some x→cs'[i]? = some x'→Wk M' (x.sub σ) x'):vB K' M' w c p cs':=by
 intro j x' hj
 obtain ⟨x,hx⟩:∃ x,cs[j]? = some x:=⟨_,List.getElem?_eq_getElem (by have:=(List.getElem?_eq_some_iff.1 hj).1;omega)⟩
 obtain ⟨y,h1,h2⟩:=h j x hx
 exact ⟨y,h1,(hw j x x' hx hj).rep (hs _ _ h2)⟩
theorem hrep_sub {E:Env} {K:Ctx} {w:World} {N:Nat} {H H':zz} (hh:HRep E K w H) (σ:Nat→Sub) (τ:Nat→Option Nat)
 (hN:∀ b,b<N→τ b=some b) (hNl:N≤H'.length) (hto:∀ b b',b<H.length→σ b=.to b'→b'<H'.length∧τ b'=some b)
 (hisl:∀ b k es',b<H.length→σ b=.isl k es'→∃ es,H[b]? = some (.arr k es)∧es'=AV.subL σ es)
 (hcel:∀ b cs',b<H.length→σ b=.icells cs'→∃ cs,H[b]? = some (.cells cs)∧cs'=AV.subL σ cs)
 (hO:∀ (b':Nat) o',H'[b']? = some o'→sM H H'.length σ τ b' o') :
 ∃ K',HRep E K' w H'∧sS E K w H σ K' H'.length∧Ev N K H w K' H' w:=by
 let K':Ctx:=⟨fun b'=>(τ b').bind K.γ,fun blk=>K.I blk∨∃ b base o,H[b]? = some o∧o.live∧(∀ b',σ b≠.to b')∧σ b≠.gone∧K.γ b=some (blk,base),K.B,K.e⟩
 have sok:sS E K w H σ K' H'.length:=by
  refine ⟨fun b b' hb hs=>⟨(hto b b' hb hs).1,by simp [K',(hto b b' hb hs).2]⟩,hisl,hcel,fun b hb=>.inl hb,fun b blk base hb h1 h2 h3=>?_⟩
  cases hs:σ b with
  | to b'=>exact absurd hs (h1 b')
  | gone=>exact absurd hs h2
  | isl k es'=>obtain ⟨es,he,_⟩:=hisl b k es' hb hs;exact .inr ⟨b,base,_,he,trivial,h1,h2,h3⟩
  | icells cs'=>obtain ⟨cs,he,_⟩:=hcel b cs' hb hs;exact .inr ⟨b,base,_,he,trivial,h1,h2,h3⟩
 have hrep:∀ v y,VRep K H.length w v y→VRep K' H'.length w (v.sub σ) y:=fun v y h=>vp hh sok _ v y (Nat.le_refl _) h
 -- a live object of the new heap with a block
 have src:∀ (b':Nat) o' blk base,H'[b']? = some o'→o'.live→K'.γ b'=some (blk,base)→∃ b o,H[b]? = some o∧o.live∧K.γ b=some (blk,base)∧σ b=.to b':=by
  intro b' o' blk base h1 h2 h3
  cases hO b' o' h1 with
  | dead=>exact h2.elim
  | none k ht=>simp [K',ht] at h3
  | some b o _ hb ht hs hw =>
   simp only [K',ht,Option.bind_some] at h3
   refine ⟨b,o,hb,?_,h3,hs⟩
   cases hw<;>trivial
  | same b o _ hb ht hs he =>
   simp only [K',ht,Option.bind_some] at h3
   exact ⟨b,o,hb,AObj.sub_live (σ:=σ) (he ▸ h2),h3,hs⟩
 have hx:XRep E K' w H':=by
  refine hh.xsame rfl (fun _ h=>.inl h) (fun blk ⟨b',o',base,h1,h2,h3⟩=>?_) (fun b' j st hb'=>?_)
  · obtain ⟨b,o,g1,g2,g3,_⟩:=src b' o' blk base h1 h2 h3
    exact ⟨b,o,base,g1,g2,g3⟩
  · cases hO b' _ hb' with
    | some b o _ hb ht hs hw=>cases hw
    | same b o _ hb ht hs he=>cases o<;>cases he;exact ⟨b,hb⟩
 refine ⟨K',⟨?_,?_,?_,?_,?_,hx⟩,sok,⟨fun b hb=>by simp [K',hN b hb],hNl,fun b hb=>.inl hb,?_,?_,fun _ _ _=>rfl,Nat.le_refl _,fun b c ty fz h=>⟨c,fz,h,rfl⟩,fun b r h=>⟨r,h⟩,rfl,rfl,rfl⟩⟩
 · intro b' o' hb'
   cases hO b' o' hb' with
   | dead=>exact .dead _
   | none k ht=>simp only [K',ht,Option.bind_none];exact .arr0 k
   | same b o _ hb ht hs he =>
    have hg:K'.γ b'=K.γ b:=by simp [K',ht]
    rw [hg];subst he
    exact tZ hrep (hh.obj b o hb)
   | some b o _ hb ht hs hw =>
    have hg:K'.γ b'=K.γ b:=by simp [K',ht]
    rw [hg]
    have ho:=hh.obj b o hb
    cases hw with
    | cells cs cs' h =>
     revert ho;generalize K.γ b=g;intro ho
     cases ho with
     | cells blk base _ c ty hc hl =>
      refine .cells blk base cs' c ty hc (lies_wk hrep hl ?_ ?_)
      · have:=h.spec.1;rw [AV.subL_eq,List.length_map] at this;exact this
      · intro i x x' hx hx';exact h.spec.2 i _ x' (by rw [AV.subL_eq,List.getElem?_map,hx];rfl) hx'
    | arr k es es' h hk =>
     have hlen:es.length=es'.length:=by have:=h.spec.1;rw [AV.subL_eq,List.length_map] at this;exact this
     revert ho;generalize K.γ b=g;intro ho
     cases ho with
     | arr0=>
      have:es'=[]:=List.length_eq_zero_iff.1 hlen.symm
      subst this;exact .arr0 k
     | arr blk base _ _ c ty hc hk1 hl =>
      have hget:∀ (i:Nat) e',es'[i]? = some e'→∃ e,es[i]? = some e∧Wk H'.length (e.sub σ) e':=by
       intro i e' hi
       obtain ⟨e,he⟩:∃ e,es[i]? = some e:=⟨_,List.getElem?_eq_getElem (by have:=(List.getElem?_eq_some_iff.1 hi).1;omega)⟩
       exact ⟨e,he,h.spec.2 i _ e' (by rw [AV.subL_eq,List.getElem?_map,he];rfl) hi⟩
      refine .arr blk base k es' c ty hc (fun i e' hi=>?_) fun i e' hi=>?_
      · obtain ⟨e,he,_⟩:=hget i e' hi
        rw [hk i e e' he hi];exact hk1 i e he
      · obtain ⟨e,he,hw⟩:=hget i e' hi
        have hce:=hk i e e' he hi
        have l1:vB K' H'.length w c (base+i * k) (e.sub σ).cells:=by
         intro j x hj
         rw [AV.cells_sub,List.getElem?_map] at hj
         obtain ⟨x0,hx0,rfl⟩:=Option.map_eq_some_iff.1 hj
         obtain ⟨y,g1,g2⟩:=hl i e he j x0 hx0
         exact ⟨y,g1,hrep _ _ g2⟩
        have hcs:(e.sub σ).cells.length=e.cells.length:=by rw [AV.cells_sub,List.length_map]
        generalize e.sub σ=u at hw l1 hcs
        have one:∀ (x x':AV),Wk H'.length x x'→x.cells=[x]→x'.cells=[x']→vB K' H'.length w c (base+i * k) x.cells→vB K' H'.length w c (base+i * k) x'.cells:=by
         intro x x' hx e1 e2 hl j z hj
         rw [e1] at hl;rw [e2] at hj
         cases j with
         | zero=>simp at hj;subst hj;obtain ⟨y,g1,g2⟩:=hl 0 x rfl;exact ⟨y,g1,hx.rep g2⟩
         | succ j=>simp at hj
        cases hw with
        | refl=>exact l1
        | undef=>
         have h1:u.cells.length=1:=by rw [hcs,← hce];rfl
         intro j z hj
         cases j with
         | zero =>
          obtain ⟨x,hx⟩:∃ x,u.cells[0]? = some x:=⟨_,List.getElem?_eq_getElem (by omega)⟩
          obtain ⟨y,g1,g2⟩:=l1 0 x hx
          simp [AV.cells] at hj;subst hj
          exact ⟨y,g1,.undef _⟩
         | succ j=>simp [AV.cells] at hj
        | nilI k=>exact one _ _ (.nilI k) rfl rfl l1
        | nilS b k lo hb=>exact one _ _ (.nilS b k lo hb) rfl rfl l1
        | agg cs cs' hl2 hw2 =>
         intro j z hj
         obtain ⟨x,hx⟩:∃ x,cs[j]? = some x:=⟨_,List.getElem?_eq_getElem (by have:=(List.getElem?_eq_some_iff.1 hj).1;simp only [AV.cells] at this;omega)⟩
         obtain ⟨y,g1,g2⟩:=l1 j x hx
         exact ⟨y,g1,(hw2 j x z hx hj).rep g2⟩
        | tup cs cs' hl2 hw2=>exact one _ _ (.tup cs cs' hl2 hw2) rfl rfl l1
    | loop F F' n ps a c st pd h =>
     revert ho;generalize K.γ b=g;intro ho
     cases ho with
     | loop blk base _ _ _ _ _ _ _ r h1 h2 h3 h4 h5 h6 h7 h8=>exact .loop blk base F' n ps a c st pd r h1 h2 h3 h4 h5 h6 h7 ⟨h8.1,fun t=>(h.spec t).rep (hrep _ _ (h8.2 t))⟩
    | amap es =>
     revert ho;generalize K.γ b=g;intro ho
     cases ho with
     | amap blk base _ ents clock h1 hl he =>
      refine .amap blk base _ ents clock h1 (by simpa using hl) fun i x y hx hy=>?_
      rw [List.getElem?_map] at hx
      obtain ⟨x0,hx0,rfl⟩:=Option.map_eq_some_iff.1 hx
      exact ⟨hrep _ _ (he i x0 y hx0 hy).1,hrep _ _ (he i x0 y hx0 hy).2⟩
 · intro b1 b2 o1 o2 blk base1 base2 h1 h2 l1 l2 e1 e2
   obtain ⟨c1,p1,q1,r1,s1,t1⟩:=src b1 o1 blk base1 h1 l1 e1
   obtain ⟨c2,p2,q2,r2,s2,t2⟩:=src b2 o2 blk base2 h2 l2 e2
   have:=hh.inj c1 c2 p1 p2 blk base1 base2 q1 q2 r1 r2 s1 s2
   subst this
   rw [t1] at t2;cases t2;rfl
 · rintro blk (⟨b',o',base,h1,h2,h3⟩ | hB) hi
   case inr =>
    rcases hi with hi | ⟨b2,base2,o2,k1,k2,k3,k4,k5⟩
    · exact hh.disj blk (.inr hB) hi
    · exact hh.x.dis blk ⟨b2,o2,base2,k1,k2,k5⟩ hB
   obtain ⟨b,o,g1,g2,g3,g4⟩:=src b' o' blk base h1 h2 h3
   rcases hi with hi | ⟨b2,base2,o2,k1,k2,k3,k4,k5⟩
   · exact hh.disj blk (.inl ⟨b,o,base,g1,g2,g3⟩) hi
   · have:=hh.inj b b2 o o2 blk base base2 g1 k1 g2 k2 g3 k5
     subst this;exact k3 b' g4
 · rintro blk (hi | ⟨b2,base2,o2,k1,k2,k3,k4,k5⟩)
   · exact hh.low blk hi
   · exact yE hh (.inl ⟨b2,o2,base2,k1,k2,k5⟩)
 · intro g
   exact VRep.mono (K:=K) (K':=K') (fun b hb=>absurd hb (Nat.not_lt_zero _)) (Nat.le_refl _) (fun _ h=>.inl h) (fun _ _ _=>rfl) (fun b c ty fz h=>⟨c,fz,h,rfl⟩) (hh.glob g)
 · rintro b (hi | ⟨b2,base2,o2,k1,k2,k3,k4,k5⟩)
   · exact .inl hi
   · exact .inr (.inl (.inl ⟨b2,o2,base2,k1,k2,k5⟩))
 · rintro blk (⟨b',o',base,h1,h2,h3⟩ | hB)
   case inr=>exact .inl (.inr hB)
   obtain ⟨b,o,g1,g2,g3,g4⟩:=src b' o' blk base h1 h2 h3
   exact .inl (.inl ⟨b,o,base,g1,g2,g3⟩)
def ofL (L:List Sub) (b:Nat):Sub:=(L[b]?).getD .gone
def ofT (T:List (Option Nat)) (b:Nat):Option Nat:=(T[b]?).getD none
def SubL (H:zz) (M':Nat) (T:List (Option Nat)) (σ:Nat→Sub):Nat→List Sub→Prop
 | _,[]=>True
 | b,s :: r=>(match s with
  | .to b'=>b'<M'∧T[b']? = some (some b)
  | .isl k es'=>∃ es,H[b]? = some (.arr k es)∧es'=AV.subL σ es
  | .icells cs'=>∃ cs,H[b]? = some (.cells cs)∧cs'=AV.subL σ cs
  | .gone=>True)∧SubL H M' T σ (b+1) r
theorem SubL.spec {H:zz} {M':Nat} {T:List (Option Nat)} {σ:Nat→Sub}:∀ {b:Nat} {L:List Sub},SubL H M' T σ b L→∀ (i:Nat) s,L[i]? = some s→(match s with
 | .to b'=>b'<M'∧T[b']? = some (some (b+i))
 | .isl k es'=>∃ es,H[b+i]? = some (.arr k es)∧es'=AV.subL σ es
 | .icells cs'=>∃ cs,H[b+i]? = some (.cells cs)∧cs'=AV.subL σ cs
 | .gone=>True)
 | b,[],_,i,s,h=>by simp at h
 | b,x :: r,h,0,s,hs=>by simp at hs;subst hs;exact h.1
 | b,x :: r,h,i+1,s,hs=>by
  have:=SubL.spec h.2 i s (by simpa using hs)
  rw [show b+1+i=b+(i+1) by omega] at this
  exact this
def ObjL (H:zz) (M:Nat) (σ:Nat→Sub) (τ:Nat→Option Nat):Nat→zz→Prop
 | _,[]=>True
 | b',o' :: r=>sM H M σ τ b' o'∧ObjL H M σ τ (b'+1) r
theorem ObjL.spec {H:zz} {M:Nat} {σ:Nat→Sub} {τ:Nat→Option Nat}:∀ {b:Nat} {L:zz},ObjL H M σ τ b L→∀ (i:Nat) o',L[i]? = some o'→sM H M σ τ (b+i) o'
 | b,[],_,i,s,h=>by simp at h
 | b,x :: r,h,0,s,hs=>by simp at hs;subst hs;exact h.1
 | b,x :: r,h,i+1,s,hs=>by
  have:=ObjL.spec h.2 i s (by simpa using hs)
  rw [show b+1+i=b+(i+1) by omega] at this
  exact this
theorem hrep_subL {E:Env} {K:Ctx} {w:World} {H H':zz} (hh:HRep E K w H) (L:List Sub) (T:List (Option Nat)) (h1:SubL H H'.length T (ofL L) 0 L) (h2:ObjL H H'.length (ofL L) (ofT T) 0 H') :
 ∃ K',HRep E K' w H'∧sS E K w H (ofL L) K' H'.length∧Ev 0 K H w K' H' w:=by
 have key:∀ b s,ofL L b=s→s≠.gone→L[b]? = some s:=by
  intro b s h hs
  unfold ofL at h
  cases hb:L[b]? with
  | none=>rw [hb] at h;exact absurd h.symm hs
  | some x=>rw [hb] at h;simp at h;rw [h]
 refine hrep_sub hh (ofL L) (ofT T) (fun b hb=>absurd hb (Nat.not_lt_zero _)) (Nat.zero_le _) (fun b b' _ hs=>?_) (fun b k es' _ hs=>?_) (fun b cs' _ hs=>?_) fun b' o' ho=>?_
 · have:=h1.spec b _ (key b _ hs (by simp))
   simp only [Nat.zero_add] at this
   exact ⟨this.1,by simp [ofT,this.2]⟩
 · have:=h1.spec b _ (key b _ hs (by simp));simpa only [Nat.zero_add] using this
 · have:=h1.spec b _ (key b _ hs (by simp));simpa only [Nat.zero_add] using this
 · have:=h2.spec b' o' ho;simpa only [Nat.zero_add] using this
theorem ya {E:Env} {n:Nat} {F F':AFr} {H H':zz} (L:List Sub) (T:List (Option Nat)) (h1:SubL H H'.length T (ofL L) 0 L) (h2:ObjL H H'.length (ofL L) (ofT T) 0 H') (h3:FWk H'.length (ofL L) F F'):Ent E n 0 F H F' H':=by
 intro K w tmps hh hF _
 obtain ⟨K',a,b,c⟩:=hrep_subL hh L T h1 h2
 exact ⟨K',a,⟨hF.1,fun t=>(h3.spec t).rep (vp hh b _ _ _ (Nat.le_refl _) (hF.2 t))⟩,c⟩
end Go.Am
end
section
namespace Go.Am
mutual
def AV.closed : AV→Bool
 | .undef | .val _=>true
 | .agg cs | .tup cs | .iptr cs | .isl _ cs | .fn _ cs=>AV.closedL cs
 | .iface _ v=>AV.closed v
 | _=>false
def AV.closedL : List AV→Bool
 | []=>true
 | c :: cs=>AV.closed c && AV.closedL cs
end
mutual
def AV.flat : AV→Bool
 | .undef | .val _=>true
 | .agg cs | .tup cs=>AV.flatL cs
 | .iface _ v=>AV.flat v
 | _=>false
def AV.flatL : List AV→Bool
 | []=>true
 | c :: cs=>AV.flat c && AV.flatL cs
end
theorem AV.closedL_mem : ∀ {cs:List AV},AV.closedL cs=true→∀ c∈cs,c.closed=true
 | [],_,c,h=>by cases h
 | x :: r,h,c,hc=>by
  simp only [AV.closedL,Bool.and_eq_true] at h
  rcases List.mem_cons.1 hc with rfl | hc
  · exact h.1
  · exact AV.closedL_mem h.2 c hc
theorem AV.flatL_mem : ∀ {cs:List AV},AV.flatL cs=true→∀ c∈cs,c.flat=true
 | [],_,c,h=>by cases h
 | x :: r,h,c,hc=>by
  simp only [AV.flatL,Bool.and_eq_true] at h
  rcases List.mem_cons.1 hc with rfl | hc
  · exact h.1
  · exact AV.flatL_mem h.2 c hc
@[simp] theorem AV.closedL_map {α:Type} (f:α→AV) (h:∀ x,(f x).closed=true):∀ l:List α,AV.closedL (l.map f)=true
 | []=>rfl
 | x :: r=>by simp [AV.closedL,h x,AV.closedL_map f h r]
theorem AV.closedL_of : ∀ {cs:List AV},(∀ c∈cs,c.closed=true)→AV.closedL cs=true
 | [],_=>rfl
 | x :: r,h=>by simp [AV.closedL,h x List.mem_cons_self,AV.closedL_of fun c hc=>h c (List.mem_cons_of_mem _ hc)]
theorem rep_closed {K K':Ctx} {M M':Nat} {w:World} (hI:∀ b,K.I b→K'.I b) {v:AV} {y:Value} (h:VRep K M w v y):v.closed=true→VRep K' M' w v y:=by
 induction h with
 | undef y=>exact fun _=>.undef y
 | val v hv=>exact fun _=>.val v hv
 | agg cs ys hl _ ih=>exact fun hc=>.agg cs ys hl fun i c y h1 h2=>ih i c y h1 h2 (AV.closedL_mem hc c (List.mem_of_getElem? h1))
 | tup cs ys hl _ ih=>exact fun hc=>.tup cs ys hl fun i c y h1 h2=>ih i c y h1 h2 (AV.closedL_mem hc c (List.mem_of_getElem? h1))
 | iptr cs f blk off hi hcc _ ih=>exact fun hc=>.iptr cs f blk off (hI _ hi) hcc fun j c hj=>ih j c hj (AV.closedL_mem hc c (List.mem_of_getElem? hj))
 | islnil k=>exact fun _=>.islnil k
 | isl k es f a cap hle hi hk hcc _ ih =>
  refine fun hc=>.isl k es f a cap hle (fun hne=>⟨hI _ (hi hne).1,(hi hne).2⟩) hk hcc fun i e j c he hj=>ih i e j c he hj ?_
  have h1:=AV.closedL_mem hc e (List.mem_of_getElem? he)
  cases e with
  | agg cs=>exact AV.closedL_mem h1 c (List.mem_of_getElem? hj)
  | _=>simp only [AV.cells] at hj;cases j with
   | zero=>simp at hj;subst hj;exact h1
   | succ j=>simp at hj
 | fn f cs ys hl _ ih=>exact fun hc=>.fn f cs ys hl fun i c y h1 h2=>ih i c y h1 h2 (AV.closedL_mem hc c (List.mem_of_getElem? h1))
 | iface t v y _ ih=>exact fun hc=>.iface t v y (ih hc)
 | _=>intro hc;cases hc
theorem rep_flat {K K':Ctx} {M M':Nat} {w w':World} {v:AV} {y:Value} (h:VRep K M w v y):v.flat=true→VRep K' M' w' v y:=by
 induction h with
 | undef y=>exact fun _=>.undef y
 | val v hv=>exact fun _=>.val v hv
 | agg cs ys hl _ ih=>exact fun hc=>.agg cs ys hl fun i c y h1 h2=>ih i c y h1 h2 (AV.flatL_mem hc c (List.mem_of_getElem? h1))
 | tup cs ys hl _ ih=>exact fun hc=>.tup cs ys hl fun i c y h1 h2=>ih i c y h1 h2 (AV.flatL_mem hc c (List.mem_of_getElem? h1))
 | iface t v y _ ih=>exact fun hc=>.iface t v y (ih hc)
 | _=>intro hc;cases hc
def PCall (E:Env) (f:FuncId) (args:List AV) (v:AV):Prop:=xu E.P f∧ACall E f args [] fun v' H'=>v'=v∧H'=[]
theorem keep_all {E:Env} {K K0 K1 K':Ctx} {w w':World} {H:zz} (hh:HRep E K w H) (ev:Ev 0 K0 [] w K1 [] w') (hI:∀ b,K.I b→K'.I b) (hg:K'.γ=K.γ) (hI':∀ b,K'.I b→K.I b∨w.heap.size≤b) (hlow:∀ b,K'.I b→b<w'.heap.size) (hB0:∀ b,¬ K0.B b) (hB:K'.B=K.B:=by rfl) (hE:K'.e=K.e:=by rfl) :
 HRep E K' w' H∧Ev H.length K H w K' H w':=by
 have hno:∀ b,¬ yb K0 [] b:=by
  rintro b (⟨i,o,base,h,_⟩ | h)
  · simp at h
  · exact hB0 b h
 have hfr:∀ b,b<w.heap.size→w'.heap[b]? = w.heap[b]?:=fun b hb=>ev.frame b hb (hno b)
 have hm:Mv K H.length w K' H.length w':=⟨fun b _=>by rw [hg],Nat.le_refl _,hI,fun b hb o=>yI (hfr b (hh.low b hb)) o,ev.cells⟩
 have hown1:∀ b,ws K' H b→ws K H b:=by rintro b ⟨i,o,base,h1,h2,h3⟩;exact ⟨i,o,base,h1,h2,by rw [← hg];exact h3⟩
 have hown:∀ b,yb K' H b→yb K H b:=fun b hb=>hb.imp (hown1 b) (fun h=>hB ▸ h)
 refine ⟨⟨fun b o hb=>?_,fun b b' o o' blk base base' h1 h2 l1 l2 e1 e2=>?_,fun blk ho hi=>?_,hlow,fun g=>?_,hh.x.stay hB hI (fun b hb=>hfr b (hb.elim (hh.x.low b) (hh.low b))) ev.cells ev.size (fun b hb=>.inl (hown1 b hb)) (fun b j st hb=>⟨b,hb⟩) hE⟩,
  ⟨fun b _=>by rw [hg],Nat.le_refl _,hI,fun b hb=>(hI' b hb).elim .inl fun h=>.inr (.inr h),fun b hb=>.inl (hown b hb),fun b hb _=>hfr b hb,ev.size,ev.cells,ev.loops,ev.os,ev.out,hE⟩⟩
 · rw [hg];exact hm.orep (hh.obj b o hb) fun blk base e hl=>hfr blk (yE hh (.inl ⟨b,o,base,hb,hl,e⟩))
 · rw [hg] at e1 e2;exact hh.inj b b' o o' blk base base' h1 h2 l1 l2 e1 e2
 · rcases hI' blk hi with hi | hi
   · exact hh.disj blk (hown blk ho) hi
   · have:=yE hh (hown blk ho);omega
 · exact VRep.mono (K:=K) (K':=K') (fun b hb=>absurd hb (Nat.not_lt_zero _)) (Nat.le_refl _) hI hm.wc hm.cells (hh.glob g)
theorem hrep_nil {E:Env} {K K0:Ctx} {w:World} {H:zz} (hh:HRep E K w H) (hI:K0.I=K.I) (hB:∀ b,¬ K0.B b):HRep E K0 w []:=by
 refine ⟨fun b o hb=>by simp at hb,fun b b' o o' blk base base' h1=>by simp at h1,?_,fun blk hb=>hh.low blk (hI ▸ hb),fun g=>?_,⟨fun _ _=>hB _,fun _ h=>(hB _ h).elim,fun b j st hb=>by simp at hb⟩⟩
 · rintro blk (⟨i,o,base,h,_⟩ | h)
   · simp at h
   · exact (hB _ h).elim
 · exact VRep.mono (K:=K) (K':=K0) (fun b hb=>absurd hb (Nat.not_lt_zero _)) (Nat.le_refl _) (fun b hb=>hI ▸ hb) (fun _ _ _=>rfl) (fun b c ty fz h=>⟨c,fz,h,rfl⟩) (hh.glob g)
theorem PCall.lift {E:Env} {f:FuncId} {args:List AV} {v:AV} {H:zz} (h:PCall E f args v) (hcl:AV.closedL args=true):ACall E f args H fun v' H'=>v'=v∧H'=H:=by
 intro K w ys hh hv
 let K0:Ctx:=⟨fun _=>none,K.I,fun _=>False,false⟩
 have h0:HRep E K0 w []:=hrep_nil hh rfl (fun _ h=>h)
 have hv0:VReps K0 ([]:zz).length w args ys:=⟨hv.1,fun i x y hx hy=>rep_closed (K:=K) (K':=K0) (fun _ h=>h) (hv.2 i x y hx hy) (AV.closedL_mem hcl x (List.mem_of_getElem? hx))⟩
 refine (h.2 K0 w ys h0 hv0).mono ?_
 rintro e w' ⟨v',y,H',K1,rfl,⟨rfl,rfl⟩,a,b,c⟩
 let K':Ctx:=⟨K.γ,K1.I,K.B,K.e⟩
 obtain ⟨k1,k2⟩:=keep_all (K':=K') hh c c.I rfl (fun b hb=>by
  rcases c.I' b hb with h | h | h
  · exact .inl h
  · rcases h with ⟨i,o,base,h,_⟩ | h
    · simp at h
    · exact h.elim
  · exact .inr h) a.low (fun _ h=>h)
 exact ⟨v',y,H,K',rfl,⟨rfl,rfl⟩,k1,VRep.mono (K:=K1) (K':=K') (fun b hb=>absurd hb (Nat.not_lt_zero _)) (Nat.zero_le _) (fun _ h=>h) (fun _ _ _=>rfl) (fun b c ty fz h=>⟨c,fz,h,rfl⟩) b,k2⟩
theorem PCall.lend {E:Env} {f:FuncId} {args args':List AV} {v:AV} {H:zz} (L:List Sub) (hL:SubL H 0 [] (ofL L) 0 L) (ha:AV.subL (ofL L) args=args') (h:PCall E f args' v) (hfl:v.flat=true):ACall E f args H fun v' H'=>v'=v∧H'=H:=by
 intro K w ys hh hv
 obtain ⟨Ks,h0s,hs,ev0⟩:=hrep_subL (H':=[]) hh L [] hL trivial
 let K0:Ctx:=⟨Ks.γ,Ks.I,fun _=>False,false⟩
 have h0:HRep E K0 w []:=hrep_nil h0s rfl (fun _ h=>h)
 have hv0:VReps K0 ([]:zz).length w args' ys:=by
  rw [← ha,AV.subL_eq]
  refine ⟨by simpa using hv.1,fun i x y hx hy=>?_⟩
  rw [List.getElem?_map] at hx
  obtain ⟨x0,hx0,rfl⟩:=Option.map_eq_some_iff.1 hx
  exact VRep.mono (K:=Ks) (K':=K0) (fun _ _=>rfl) (Nat.le_refl _) (fun _ h=>h) (fun _ _ _=>rfl) (fun b c ty fz h=>⟨c,fz,h,rfl⟩) (vp hh hs _ _ _ (Nat.le_refl _) (hv.2 i x0 y hx0 hy))
 refine (h.2 K0 w ys h0 hv0).mono ?_
 rintro e w' ⟨v',y,H',K1,rfl,⟨rfl,rfl⟩,a,b,c⟩
 obtain ⟨k1,k2⟩:=keep_all (K':=K) hh c (fun _ h=>h) rfl (fun b hb=>.inl hb) (fun b hb=>Nat.lt_of_lt_of_le (hh.low b hb) c.size) (fun _ h=>h)
 exact ⟨v',y,H,K,rfl,⟨rfl,rfl⟩,k1,rep_flat b hfl,k2⟩
def Fz (H:zz) (u v:AV):Prop:=∃ L,SubL H 0 [] (ofL L) 0 L∧Wk 0 (u.sub (ofL L)) v
theorem Fz.none {H:zz} {u v:AV} (h:Wk 0 (u.sub (ofL [])) v):Fz H u v:=⟨[],trivial,h⟩
theorem acall_fz {E:Env} {f:FuncId} {args:List AV} {H:zz} {v:AV} (h:ACall E f args H fun u H'=>Fz H' u v):∀ K w ys,HRep E K w H→VReps K H.length w args ys →
 Calls E.P f ys.toArray w fun e w'=>∃ y K',e=.returned y∧HRep E K' w' []∧VRep K' 0 w' v y∧Ev 0 K H w K' [] w':=by
 intro K w ys hh hv
 refine (h K w ys hh hv).mono ?_
 rintro e w' ⟨u,y,H',K1,rfl,⟨L,hL,hw⟩,a,b,c⟩
 obtain ⟨K0,h0,hs,ev0⟩:=hrep_subL (H':=[]) a L [] hL trivial
 exact ⟨y,K0,rfl,h0,hw.rep (vp a hs _ _ _ (Nat.le_refl _) b),(c.mono (Nat.zero_le _)).trans ev0⟩
theorem pcall_body {E:Env} {f:FuncId} {fn:Func} {ac:ACode} {args:List AV} {v:AV} {rvs:List RV} (hf:E.P.funcs[f]? = some fn) (hnm:(fn.name == "runtime.NumGoroutine")=false) (hb:fn.body.map (yF E.P fn.ntmps)=some ac) (hrv:fn.results.toList.map (wE E.P)=rvs.map some) (hn:args.length≤fn.ntmps)
 (h:AWP E fn.ntmps 0 ac (wL 0 args) [] (fun e F' H'=>match e with | .exit _=>False | _=>∃ vs,w7 F' H' rvs=some vs∧Fz H' (wP vs) v)):PCall E f args v:=by
 refine ⟨enters_body hf hnm (by cases hbb:fn.body with | none=>rw [hbb] at hb;simp at hb | some c=>rfl),?_⟩
 intro K w ys hh hv
 refine (acall_fz (acall_body hf hb hrv hn h) K w ys hh hv).mono ?_
 rintro e w' ⟨y,K',rfl,a,b,c⟩
 exact ⟨v,y,[],K',rfl,⟨rfl,rfl⟩,a,b,c⟩
section ops
variable {E:Env} {n N:Nat} {F:AFr} {H:zz} {Q:AFr→zz→Prop}
theorem aops_pcall {a:AOper} {rest:List AOper} {f:FuncId} {xs:List Opd} {args:List AV} {v:AV} (hg:zH F a.guard=some true) (ho':a.op=.call f xs) (hargs:xs.map (·.ev E.G F)=args) (hc:PCall E f args v) (hcl:AV.closedL args=true)
 (h:AOps E n N rest (F.set a.dst v) H Q):AOps E n N (a :: rest) F H Q :=
 vG hg ho' hargs hc.1 (hc.lift hcl) (by rintro v' H1 ⟨rfl,rfl⟩;exact h)
theorem aops_lcall {a:AOper} {rest:List AOper} {f:FuncId} {xs:List Opd} {args args':List AV} {v:AV} (L:List Sub) (hg:zH F a.guard=some true) (ho':a.op=.call f xs) (hargs:xs.map (·.ev E.G F)=args) (hL:SubL H 0 [] (ofL L) 0 L) (ha:AV.subL (ofL L) args=args')
 (hc:PCall E f args' v) (hfl:v.flat=true) (h:AOps E n N rest (F.set a.dst v) H Q):AOps E n N (a :: rest) F H Q :=
 vG hg ho' hargs hc.1 (hc.lend L hL ha hfl) (by rintro v' H1 ⟨rfl,rfl⟩;exact h)
end ops
end Go.Am
end
section
namespace Go.Am
section
variable {E:Env} {n N:Nat} {F:AFr} {H:zz}
theorem undef_plain : ∀ cs,undef≠Value.agg cs:=fun cs h=>by cases h
theorem aops_skipv {a:AOper} {rest:List AOper} {Q:AFr→zz→Prop} (hg:zH F a.guard=some false) (h:AOps E n N rest (F.set a.dst (.val undef)) H Q) (hd:∀ x,a.dst=some x→x<n):AOps E n N (a :: rest) F H Q:=by
 intro ops l hl K w tmps T ds k cs h1 h2 h3
 obtain ⟨i,l',o,rfl,ho,rfl,hl'⟩:=wr hl
 have hgn:(zI E.P n ops o).guard≠none:=by intro e;rw [e] at hg;cases hg
 have hw:=wU h2 (prepOper_guard hgn) hg
 have hst:=st_op_skip (P:=E.P) (T:=T) (tmps:=tmps) (ds:=ds) (k:=k) (cs:=cs) (w:=w) (ops:=ops) (i:=i) (rest:=l') (by simp [ho,hw])
 rw [ho] at hst
 rw [yH] at h hd
 have hF:=wq (Ev.mv h1 (Ev.refl H.length K H w (Nat.le_refl _))) h2 (VRep.val undef undef_plain) o.dst (.inl hd)
 obtain ⟨F',H',K',w',t',q,a1,a2,a3,a4⟩:=h ops l' hl' K w _ T ds k cs h1 hF h3
 exact ⟨F',H',K',w',t',q,a1,a2,a3,.head hst a4⟩
theorem aops_skipu {a:AOper} {rest:List AOper} {Q:AFr→zz→Prop} {d:Nat} {b:Bool} (hg:a.guard=some (d,b)) (hu:F.get d=.val undef) (h:AOps E n N rest (F.set a.dst .undef) H Q):AOps E n N (a :: rest) F H Q:=by
 intro ops l hl K w tmps T ds k cs h1 h2 h3
 obtain ⟨i,l',o,rfl,ho,rfl,hl'⟩:=wr hl
 have hgn:(zI E.P n ops o).guard≠none:=by intro e;rw [e] at hg;cases hg
 have hgt:=prepOper_guard hgn
 have hw:Region.wanted o (yielded ops tmps)=false:=by
  cases hog:o.guard with
  | none=>rw [hog] at hgt;simp only [ur,Option.some.injEq] at hgt;rw [← hgt] at hg;cases hg
  | some jb =>
   obtain ⟨j,want⟩:=jb
   rw [hog] at hgt;simp only [ur] at hgt
   split at hgt
   · rename_i d' hd
     simp only [Option.some.injEq] at hgt
     rw [← hgt] at hg
     cases hg
     have hr:=h2.2 d
     rw [hu] at hr
     have hr:=zM hr
     have hy:yielded ops tmps j=none:=by
      simp only [yielded,hd,Option.bind_some]
      cases hx:tmps[d]? with
      | none=>rfl
      | some x=>rw [Array.getD_eq_getD_getElem?,hx] at hr;simp at hr;subst hr;rfl
     simp [Region.wanted,hog,hy]
   · cases hgt
 have hst:=st_op_skip (P:=E.P) (T:=T) (tmps:=tmps) (ds:=ds) (k:=k) (cs:=cs) (w:=w) (ops:=ops) (i:=i) (rest:=l') (by simp [ho,hw])
 rw [ho] at hst
 have hF:=wq (Ev.mv h1 (Ev.refl H.length K H w (Nat.le_refl _))) h2 (VRep.undef undef) o.dst (.inr rfl)
 rw [yH] at h
 obtain ⟨F',H',K',w',t',q,a1,a2,a3,a4⟩:=h ops l' hl' K w _ T ds k cs h1 hF h3
 exact ⟨F',H',K',w',t',q,a1,a2,a3,.head hst a4⟩
theorem guard_u {P:Program} {K:Ctx} {w:World} {tmps:Array Value} {ops:Array Oper} {o:Oper} {d:Nat} {b:Bool} (h2:vi n K H.length w F tmps) (hg:(zI P n ops o).guard=some (d,b)) (hu:F.get d=.val undef):Region.wanted o (yielded ops tmps)=false:=by
 have hgn:(zI P n ops o).guard≠none:=by intro e;rw [e] at hg;cases hg
 have hgt:=prepOper_guard hgn
 cases hog:o.guard with
 | none=>rw [hog] at hgt;simp only [ur,Option.some.injEq] at hgt;rw [← hgt] at hg;cases hg
 | some jb =>
  obtain ⟨j,want⟩:=jb
  rw [hog] at hgt;simp only [ur] at hgt
  split at hgt
  · rename_i d' hd
    simp only [Option.some.injEq] at hgt
    rw [← hgt] at hg
    cases hg
    have hr:=h2.2 d
    rw [hu] at hr
    have hr:=zM hr
    have hy:yielded ops tmps j=none:=by
     simp only [yielded,hd,Option.bind_some]
     cases hx:tmps[d]? with
     | none=>rfl
     | some x=>rw [Array.getD_eq_getD_getElem?,hx] at hr;simp at hr;subst hr;rfl
    simp [Region.wanted,hog,hy]
  · cases hgt
theorem aops_skipuv {a:AOper} {rest:List AOper} {Q:AFr→zz→Prop} {d:Nat} {b:Bool} (hg:a.guard=some (d,b)) (hu:F.get d=.val undef) (h:AOps E n N rest (F.set a.dst (.val undef)) H Q) (hd:∀ x,a.dst=some x→x<n):AOps E n N (a :: rest) F H Q:=by
 intro ops l hl K w tmps T ds k cs h1 h2 h3
 obtain ⟨i,l',o,rfl,ho,rfl,hl'⟩:=wr hl
 have hw:=guard_u h2 hg hu
 have hst:=st_op_skip (P:=E.P) (T:=T) (tmps:=tmps) (ds:=ds) (k:=k) (cs:=cs) (w:=w) (ops:=ops) (i:=i) (rest:=l') (by simp [ho,hw])
 rw [ho] at hst
 rw [yH] at h hd
 have hF:=wq (Ev.mv h1 (Ev.refl H.length K H w (Nat.le_refl _))) h2 (VRep.val undef undef_plain) o.dst (.inl hd)
 obtain ⟨F',H',K',w',t',q,a1,a2,a3,a4⟩:=h ops l' hl' K w _ T ds k cs h1 hF h3
 exact ⟨F',H',K',w',t',q,a1,a2,a3,.head hst a4⟩
theorem aops_skipv2 {Q:AFr→zz→Prop} {a:AOper} {rest:List AOper} (hnb:a.op≠.bad) (h0:(∀ x,a.dst=some x→x<n)→AOps E n N (a :: rest) F H Q):AOps E n N (a :: rest) F H Q:=by
 intro ops l hl K w tmps T ds k cs h1 h2 h3
 have hx:∀ x,a.dst=some x→x<n:=by
  obtain ⟨i,l',o,_,_,e,_⟩:=wr hl
  rw [← e] at hnb ⊢
  rw [yH]
  exact (wx hnb).2.1
 exact h0 hx ops l hl K w tmps T ds k cs h1 h2 h3
def isU : Value→Bool
 | .tuple a=>Nat.beq a.size 0
 | _=>false
theorem isU_spec {v:Value} (h:isU v=true):v=undef:=by
 unfold isU at h
 split at h
 · rename_i a
   have:=Nat.eq_of_beq_eq_true h
   rw [Array.eq_empty_of_size_eq_zero this];rfl
 · cases h
def yJ : AOp→Bool
 | .mv _ | .pick .. | .ld .. | .nilchk _ | .bin .. | .eqst .. | .eqb .. | .un .. | .cvi .. | .cvs .. | .mkif .. | .slc .. | .slc3 .. | .slcs .. | .fa .. | .fld .. | .ia .. | .iaA .. | .ixA .. | .ixS .. | .ext .. | .len _ | .lens _ | .cap _ | .eqnil .. | .build .. | .mkfn ..=>true
 | _=>false
def skV (o:AOper):AV:=match yJ o.op with
 | true=>.val undef
 | false=>.undef
theorem quiet_nb {o:AOp} (h:yJ o=true):o≠.bad:=by rintro rfl;cases h
theorem aops_skipq {a:AOper} {rest:List AOper} {F:AFr} {H:zz} {Q:AFr→zz→Prop} (hg:zH F a.guard=some false) (h:AOps E n N rest (F.set a.dst (skV a)) H Q):AOps E n N (a :: rest) F H Q:=by
 unfold skV at h
 cases hq:yJ a.op with
 | true=>rw [hq] at h;exact aops_skipv2 (quiet_nb hq) fun hx=>aops_skipv hg h hx
 | false=>rw [hq] at h;exact aops_skip hg h
theorem aops_skipuq {a:AOper} {rest:List AOper} {F:AFr} {H:zz} {Q:AFr→zz→Prop} {d:Nat} {b:Bool} (hg:a.guard=some (d,b)) (hu:F.get d=.val undef) (h:AOps E n N rest (F.set a.dst (skV a)) H Q):AOps E n N (a :: rest) F H Q:=by
 unfold skV at h
 cases hq:yJ a.op with
 | true=>rw [hq] at h;exact aops_skipv2 (quiet_nb hq) fun hx=>aops_skipuv hg hu h hx
 | false=>rw [hq] at h;exact aops_skipu hg hu h
def ry (F:AFr) (g:Option (Nat × Bool)):Prop:=zH F g=some false∨∃ d b,g=some (d,b)∧F.get d=.val undef
theorem aops_skipG {a:AOper} {rest:List AOper} {Q:AFr→zz→Prop} {v:AV} (hg:ry F a.guard) (hv:v=.undef∨v=skV a) (h:AOps E n N rest (F.set a.dst v) H Q):AOps E n N (a :: rest) F H Q:=by
 rcases hg with hg | ⟨d,b,hg,hu⟩
 · rcases hv with rfl | rfl
   · exact aops_skip hg h
   · exact aops_skipq hg h
 · rcases hv with rfl | rfl
   · exact aops_skipu hg hu h
   · exact aops_skipuq hg hu h
theorem prepOp_bslice {P:Program} {op:Op} {k:Nat} {xs:List Opd} (h:za P op=.bslice k xs):∃ t len ps e ei z,op=.buildSlice t len ps∧P.underlying t=some (.slice e)∧P.info? e=some ei∧ei.zero=some z∧k=ei.size∧xs=ps.toList.map (fun p=>opd p.2) ∧
 ps.size=len∧ui 0 ps.toList=true∧len * ei.size≤16777216∧1≤ei.size∧z.cells.size=ei.size:=by
 cases op with
 | buildSlice t len ps =>
  simp only [za] at h
  split at h
  · rename_i e hu
    split at h
    · rename_i ei hi
      split at h
      · rename_i hc
        simp only [Bool.and_eq_true] at hc
        obtain ⟨⟨⟨⟨c1,c2⟩,c3⟩,c4⟩,c5⟩:=hc
        unfold vA at c5
        cases hz:ei.zero with
        | none=>rw [hz] at c5;cases c5
        | some z =>
         rw [hz] at c5
         cases h
         exact ⟨t,len,ps,e,ei,z,rfl,hu,hi,hz,rfl,rfl,Nat.eq_of_beq_eq_true c1,c2,Nat.le_of_ble_eq_true c3,Nat.le_of_ble_eq_true c4,Nat.eq_of_beq_eq_true c5⟩
      · cases h
    · cases h
  · cases h
 | makeFunc fn a b=>cases fn<;>simp only [za] at h<;>(repeat' split at h)<;>cases h
 | makeMap t r=>cases r<;>simp [za] at h
 | _=>simp only [za] at h<;>(repeat' split at h)<;>cases h
theorem aops_bslf {a:AOper} {rest:List AOper} {Q:AFr→zz→Prop} {kk:Nat} {xs:List Opd} {es:List AV} (hg:zH F a.guard=some true) (ho':a.op=.bslice kk xs) (hes:xs.map (·.ev E.G F)=es) (hfit:wK kk es=true)
 (h:AOps E n N rest (F.set a.dst (.isl kk es)) H Q):AOps E n N (a :: rest) F H Q:=by
 intro ops l hl K w tmps T ds k cs h1 h2 h3
 obtain ⟨i,l',o,rfl,ho,rfl,hl'⟩:=wr hl
 have hnb:(zI E.P n ops o).op≠.bad:=by rw [ho'];intro e;cases e
 obtain ⟨e1,e2,e3⟩:=wx hnb
 rw [e1] at ho' hnb
 have hw:=wU h2 e3 hg
 have hops:=tx h1 h2 (ρ:=(T.fr tmps ds (.inRegion ops (i :: l') :: k)).eval) (fun x=>Fc.eval_fr _ _ _ _ x)
 obtain ⟨t,len,ps,e,ei,z,hop,hu,hi,hz,rfl,rfl,c1,c2,c3,c4,c5⟩:=prepOp_bslice ho'
 have hall:∀ p∈ps.toList,((opd p.2).ev E.G F).cells.length=ei.size∧((opd p.2).ev E.G F).cells.all AV.one=true:=fun p hp =>
  fitB_spec hfit _ (by rw [← hes];exact List.mem_map.2 ⟨opd p.2,List.mem_map.2 ⟨p,hp,rfl⟩,rfl⟩)
 have hok:yM E K H w (execOp (T.fr tmps ds (.inRegion ops (i :: l') :: k)).eval o) (.isl ei.size es) H:=by
  have:=ok_bslf h1 hops hu hi hz c5 c1 c2 c3 c4 hall
  have he2:es=ps.toList.map fun p=>(opd p.2).ev E.G F:=by rw [← hes,List.map_map];rfl
  rw [he2]
  simpa only [execOp,hop] using this
 obtain ⟨yv,w1,K1,hr,hv',hh,ev⟩:=hok
 have hst:=st_op_value (cs:=cs) ho hw (w8 hnb) hr
 have hF:=wq (Ev.mv h1 ev) h2 hv' o.dst (.inl e2)
 rw [yH] at h
 obtain ⟨F',H',K',w',t',q,a1,a2,a3,a4⟩:=h ops l' hl' K1 w1 _ T ds k cs hh hF (Nat.le_trans h3 ev.len)
 exact ⟨F',H',K',w',t',q,a1,a2,(ev.mono h3).trans a3,.head hst a4⟩
end
end Go.Am
end
section
namespace Go.Am
def AOp.opds : AOp→List Opd
 | .mv x | .box x | .ld _ _ x | .nilchk x | .un _ x | .cvi _ x | .cvs x | .tob x | .clr _ _ x | .mkif _ x | .slcs x none none | .slc _ x none none | .fa _ x | .fld _ _ _ x | .ext x _ | .len x | .lens x | .cap x | .mlen x=>[x]
 | .pick a b c=>[a,b,c]
 | .build _ ps=>ps.map fun p=>p.2.2
 | .bslice _ es=>es
 | .st _ x v=>[x,v]
 | .bin _ x y | .eqst _ _ x y | .eqb _ x y | .eqnil _ x y | .app _ _ x y | .apps x y | .appb _ _ x y | .appz _ _ _ x y | .copy _ x y=>[x,y]
 | .mkfn _ xs | .mx xs | .mn xs | .call _ xs=>xs
 | .callv x xs=>x :: xs
 | .mkslice _ _ _ l c=>[l,c]
 | .slc _ x lo hi | .slcs x lo hi=>x :: (lo.toList++hi.toList)
 | .slc3 _ x lo hi m=>x :: (lo.toList++[hi,m])
 | .ia _ x i | .iaA _ _ x i | .ixA _ _ _ x i | .ixS x i=>[x,i]
 | .mlook _ _ m x _=>[m,x]
 | .mput _ m x v=>[m,x,v]
 | .mkmap | .bnew _ | .bad=>[]
theorem evalOp1_congr {G:Nat→AV} {o:AOp} {F F':AFr} {H:zz} (h:∀ x∈o.opds,x.ev G F=x.ev G F'):zr G o F H=zr G o F' H:=by
 cases o with
 | build z ps =>
  simp only [AOp.opds,List.mem_map,forall_exists_index,and_imp,forall_apply_eq_imp_iff₂] at h
  have e1:(ps.map fun p=>(p.1,p.2.1,p.2.2.ev G F))=ps.map fun p=>(p.1,p.2.1,p.2.2.ev G F'):=List.map_congr_left fun p hp=>by rw [h p hp]
  have e2:(ps.all fun p=>(p.2.2.ev G F).cells.all AV.one)=ps.all fun p=>(p.2.2.ev G F').cells.all AV.one:=by
   rw [Bool.eq_iff_iff];simp only [List.all_eq_true]
   exact ⟨fun hh p hp=>by rw [← h p hp];exact hh p hp,fun hh p hp=>by rw [h p hp];exact hh p hp⟩
  simp only [zr,e1,e2]
 | bslice k es =>
  simp only [AOp.opds] at h
  have e1:(es.map (·.ev G F))=es.map (·.ev G F'):=List.map_congr_left fun p hp=>h p hp
  have e2:(es.all fun x=>Nat.beq (x.ev G F).cells.length k && (x.ev G F).cells.all AV.one)=es.all fun x=>Nat.beq (x.ev G F').cells.length k && (x.ev G F').cells.all AV.one:=by
   rw [Bool.eq_iff_iff];simp only [List.all_eq_true]
   exact ⟨fun hh p hp=>by rw [← h p hp];exact hh p hp,fun hh p hp=>by rw [h p hp];exact hh p hp⟩
  simp only [zr,e1,e2]
 | mkfn f xs =>
  have e1:(xs.map (·.ev G F))=xs.map (·.ev G F'):=List.map_congr_left fun p hp=>h p (by simpa [AOp.opds] using hp)
  simp only [zr,e1]
 | mx xs =>
  have e1:(xs.map (·.ev G F))=xs.map (·.ev G F'):=List.map_congr_left fun p hp=>h p (by simpa [AOp.opds] using hp)
  simp only [zr,e1]
 | mn xs =>
  have e1:(xs.map (·.ev G F))=xs.map (·.ev G F'):=List.map_congr_left fun p hp=>h p (by simpa [AOp.opds] using hp)
  simp only [zr,e1]
 | slc k x lo hi =>
  cases lo<;>cases hi<;>simp [AOp.opds] at h<;>simp [zr,zE,h]
 | slcs x lo hi =>
  cases lo<;>cases hi<;>simp [AOp.opds] at h<;>simp [zr,zE,h]
 | _=>simp [AOp.opds] at h<;>simp [zr,h]
theorem evalOp2_congr {G:Nat→AV} {o:AOp} {F F':AFr} {H:zz} (h:∀ x∈o.opds,x.ev G F=x.ev G F'):zj G o F H=zj G o F' H:=by
 cases o with
 | slc k x lo hi =>
  cases lo<;>cases hi<;>simp [AOp.opds] at h<;>simp [zj,zE,h]
 | slc3 k x lo hi m =>
  have h1:=h x (by simp [AOp.opds])
  have h2:zE G F (some hi)=zE G F' (some hi):=by simp only [zE,h hi (by simp [AOp.opds])]
  have h3:zE G F (some m)=zE G F' (some m):=by simp only [zE,h m (by simp [AOp.opds])]
  have h4:zE G F lo=zE G F' lo:=by
   cases lo with
   | none=>rfl
   | some y=>simp only [zE,h y (by simp [AOp.opds])]
  simp only [zj,h1,h2,h3,h4]
 | bin op x y=>simp [AOp.opds] at h;cases op<;>simp [zj,h]
 | _=>simp [AOp.opds] at h<;>simp [zj,h]
theorem yG {G:Nat→AV} {o:AOp} {F F':AFr} {H:zz} (h:∀ x∈o.opds,x.ev G F=x.ev G F'):zF G o F H=zF G o F' H:=by
 simp only [zF,evalOp1_congr h,evalOp2_congr h]
def Opd.tmp : Opd→List Nat
 | .t i=>[i]
 | _=>[]
def AOper.looks (o:AOper):List Nat:=o.op.opds.flatMap Opd.tmp++(match o.guard with | some (d,_)=>[d] | none=>[])
theorem ev_congr {G:Nat→AV} {F F':AFr} {x:Opd} (h:∀ t∈x.tmp,F.get t=F'.get t):x.ev G F=x.ev G F':=by
 cases x with
 | t i=>exact h i (by simp [Opd.tmp])
 | _=>rfl
theorem xX {G:Nat→AV} {F F':AFr} {o:AOper} (h:∀ t∈o.looks,F.get t=F'.get t):∀ x∈o.op.opds,x.ev G F=x.ev G F':=fun x hx =>
 ev_congr fun t ht=>h t (List.mem_append.2 (.inl (List.mem_flatMap.2 ⟨x,hx,ht⟩)))
theorem ye {F F':AFr} {o:AOper} (h:∀ t∈o.looks,F.get t=F'.get t):zH F o.guard=zH F' o.guard:=by
 cases hg:o.guard with
 | none=>rfl
 | some p=>obtain ⟨d,b⟩:=p;simp only [zH];rw [h d (by simp [AOper.looks,hg])]
theorem looks_skip {F F':AFr} {o:AOper} (h:∀ t∈o.looks,F.get t=F'.get t) (hs:ry F' o.guard):ry F o.guard:=by
 rcases hs with hs | ⟨d,b,hg,hu⟩
 · exact .inl (by rw [ye h];exact hs)
 · exact .inr ⟨d,b,hg,by rw [h d (by simp [AOper.looks,hg])];exact hu⟩
def vL : List AOper→List Nat→List Nat
 | [],acc=>acc
 | o :: r,acc=>vL r (acc++[o.after.foldl (fun s k=>s ||| 2 ^ k ||| acc.getD k 0) 0])
inductive Anc (ops:List AOper):Nat→Nat→Prop
 | one {k i:Nat} {o:AOper} (h:ops[i]? = some o) (hk:k∈o.after):Anc ops k i
 | more {k j i:Nat} {o:AOper} (h:ops[i]? = some o) (hj:j∈o.after) (hk:Anc ops k j):Anc ops k i
theorem foldl_bits (acc:List Nat) (k:Nat):∀ (l:List Nat) (s:Nat),(l.foldl (fun s k=>s ||| 2 ^ k ||| acc.getD k 0) s).testBit k=true→s.testBit k=true∨∃ j∈l,k=j∨(acc.getD j 0).testBit k=true
 | [],s,h=>.inl h
 | x :: r,s,h=>by
  rcases foldl_bits acc k r _ h with h | ⟨j,hj,h⟩
  · rw [Nat.testBit_or,Nat.testBit_or,Bool.or_eq_true,Bool.or_eq_true] at h
    rcases h with (h | h) | h
    · exact .inl h
    · rw [Nat.testBit_two_pow] at h;simp at h;exact .inr ⟨x,List.mem_cons_self,.inl h.symm⟩
    · exact .inr ⟨x,List.mem_cons_self,.inr h⟩
  · exact .inr ⟨j,List.mem_cons_of_mem _ hj,h⟩
theorem uJ : ∀ (r done:List AOper) (acc:List Nat),acc.length=done.length→(∀ i k,(acc.getD i 0).testBit k=true→Anc (done++r) k i)→∀ i k,((vL r acc).getD i 0).testBit k=true→Anc (done++r) k i
 | [],done,acc,hl,h=>h
 | o :: r,done,acc,hl,h=>by
  have:=uJ r (done++[o]) (acc++[o.after.foldl (fun s k=>s ||| 2 ^ k ||| acc.getD k 0) 0]) (by simp [hl]) (fun i k hk=>by
   rw [List.append_assoc,List.singleton_append]
   rcases Nat.lt_trichotomy i acc.length with hi | hi | hi
   · rw [List.getD_eq_getElem?_getD,List.getElem?_append_left hi,← List.getD_eq_getElem?_getD] at hk;exact h i k hk
   · subst hi
     rw [List.getD_eq_getElem?_getD,List.getElem?_append_right (Nat.le_refl _)] at hk
     simp at hk
     have ho:(done++o :: r)[acc.length]? = some o:=by rw [hl];simp
     rcases foldl_bits acc k _ _ (by simpa using hk) with h0 | ⟨j,hj,rfl | h1⟩
     · simp at h0
     · exact .one ho hj
     · exact .more ho hj (h j k h1)
   · rw [List.getD_eq_getElem?_getD,List.getElem?_eq_none (by simp;omega)] at hk;simp at hk)
  rw [List.append_assoc,List.singleton_append] at this
  exact this
def Runs (ops:List AOper):List Nat→List Nat→Prop
 | S,[]=>∀ i,i<ops.length→i∈S
 | S,i :: l=>i∉S∧(∃ o,ops[i]? = some o∧∀ k∈o.after,k∈S)∧Runs ops (i :: S) l
def rq (ops:List AOper) (S:List Nat):Prop:=∀ i∈S,∀ o,ops[i]? = some o→∀ k∈o.after,k∈S
theorem Anc.mem {ops:List AOper} {S:List Nat} (hS:rq ops S) {k i:Nat} (h:Anc ops k i):(∃ o,ops[i]? = some o∧∀ k∈o.after,k∈S)→k∈S:=by
 induction h with
 | one h hk=>rintro ⟨o',h',ha⟩;rw [h] at h';cases h';exact ha _ hk
 | @more j i o h hj hk ih =>
  rintro ⟨o',h',ha⟩
  rw [h] at h';cases h'
  obtain ⟨oj,hoj⟩:∃ oj,ops[j]? = some oj:=by
   cases hk with
   | one h2 _=>exact ⟨_,h2⟩
   | more h2 _ _=>exact ⟨_,h2⟩
  exact ih ⟨oj,hoj,hS j (ha j hj) oj hoj⟩
def xY (B:List Nat):Nat→List Nat→List (List Nat)
 | 0,_=>[[]]
 | _+1,[]=>[[]]
 | f+1,rem=>rem.flatMap fun e=>if rem.any fun r=>r != e && (B.getD e 0).testBit r then [] else (xY B f (rem.filter (· != e))).map (e :: ·)
theorem chains_mem {ops:List AOper} {B:List Nat} (hB:∀ i k,(B.getD i 0).testBit k=true→Anc ops k i) (effs:List Nat) (hlt:∀ e∈effs,e<ops.length):∀ (l S:List Nat) (f:Nat),rq ops S→Runs ops S l→(effs.filter (fun e=>!S.contains e)).length≤f →
 l.filter (effs.contains ·)∈xY B f (effs.filter fun e=>!S.contains e):=by
 intro l
 induction l with
 | nil =>
  intro S f hS hr hf
  have:(effs.filter fun e=>!S.contains e)=[]:=by
   apply List.filter_eq_nil_iff.2
   intro e he;simp;exact hr e (hlt e he)
  rw [this];cases f<;>simp [xY]
 | cons i l ih =>
  intro S f hS hr hf
  obtain ⟨h1,h2,h3⟩:=hr
  have hS':rq ops (i :: S):=by
   intro x hx o ho k hk
   rcases List.mem_cons.1 hx with rfl | hx
   · obtain ⟨o',ho',ha⟩:=h2;rw [ho] at ho';cases ho';exact List.mem_cons_of_mem _ (ha k hk)
   · exact List.mem_cons_of_mem _ (hS x hx o ho k hk)
  by_cases he:effs.contains i=true
  · rw [List.filter_cons_of_pos (by simpa using he)]
    have hmem:i∈effs.filter fun e=>!S.contains e:=List.mem_filter.2 ⟨by simpa using he,by simpa using h1⟩
    have hrem:(effs.filter fun e=>!(i :: S).contains e)=(effs.filter fun e=>!S.contains e).filter (· != i):=by
     rw [List.filter_filter];apply List.filter_congr;intro x _;by_cases hx:x=i<;>simp [hx]
    have hlen:((effs.filter fun e=>!S.contains e).filter (· != i)).length<(effs.filter fun e=>!S.contains e).length:=by
     rw [List.length_filter_lt_length_iff_exists]
     exact ⟨i,hmem,by simp⟩
    cases f with
    | zero=>have:=List.length_pos_of_mem hmem;omega
    | succ f =>
     have:=ih (i :: S) f hS' h3 (by rw [hrem];omega)
     rw [hrem] at this
     have hremS:∀ r∈(effs.filter fun e=>!S.contains e),r∉S:=fun r hr=>by simpa using (List.mem_filter.1 hr).2
     generalize (effs.filter fun e=>!S.contains e)=rem at hmem this hlen hremS ⊢
     have hcs:xY B (f+1) rem=rem.flatMap fun e=>if rem.any fun r=>r != e && (B.getD e 0).testBit r then [] else (xY B f (rem.filter (· != e))).map (e :: ·):=by
      cases rem with
      | nil=>cases hmem
      | cons _ _=>rfl
     rw [hcs]
     refine List.mem_flatMap.2 ⟨i,hmem,?_⟩
     rw [if_neg]
     · exact List.mem_map_of_mem this
     · intro hany
       obtain ⟨r,hr,hb⟩:=List.any_eq_true.1 hany
       simp only [Bool.and_eq_true] at hb
       have hk:=(hB i r hb.2).mem hS h2
       exact hremS r hr hk
  · rw [List.filter_cons_of_neg (by simpa using he)]
    have hrem:(effs.filter fun e=>!(i :: S).contains e)=(effs.filter fun e=>!S.contains e):=by
     apply List.filter_congr;intro x hx
     by_cases hxi:x=i
     · subst hxi;exact absurd (by simpa using hx) he
     · simp [hxi]
    rw [← hrem] at hf ⊢
    exact ih (i :: S) f hS' h3 hf
theorem Runs.notin {ops:List AOper}:∀ {l S:List Nat},Runs ops S l→∀ i∈l,i∉S
 | [],S,h,i,hi=>by cases hi
 | x :: l,S,h,i,hi=>by
  rcases List.mem_cons.1 hi with rfl | hi
  · exact h.1
  · exact fun hs=>Runs.notin h.2.2 i hi (List.mem_cons_of_mem _ hs)
theorem Runs.nodup {ops:List AOper}:∀ {l S:List Nat},Runs ops S l→l.Nodup
 | [],_S,h=>List.nodup_nil
 | x :: l,_S,h=>List.nodup_cons.2 ⟨fun hx=>Runs.notin h.2.2 x hx List.mem_cons_self,Runs.nodup h.2.2⟩
theorem go_runs {P:Program} {n:Nat} {os:Array Oper} {ops:List AOper} (hops:ops=os.toList.map (zI P n os)) (hwf:∀ (i:Nat) (o:AOper),ops[i]? = some o→∀ k∈o.after,k<i) :
 ∀ (fuel t:Nat) (listed:Array Bool) (S:List Nat),listed.size=os.size→(∀ i,i<os.size→(listed.getD i false=true↔i∈S))→((List.range os.size).filter fun i=>!S.contains i).length≤fuel →
  Runs ops S (Region.linearise.go .any os fuel t listed []):=by
 have hlen:ops.length=os.size:=by rw [hops];simp
 have hget:∀ (i:Nat) (o':AOper),ops[i]? = some o'→∃ o,os[i]? = some o∧o'=zI P n os o:=by
  intro i o' h
  rw [hops,List.getElem?_map] at h
  obtain ⟨o,h1,h2⟩:=Option.map_eq_some_iff.1 h
  exact ⟨o,by simpa using h1,h2.symm⟩
 have haft:∀ o,(zI P n os o).after=(o.after.toList.filter binds).map (·.on):=by
  intro o;unfold zI;split<;>rfl
 have hgd:∀ (listed:Array Bool) (i:Nat),i<listed.size→listed.getD i true=listed.getD i false:=by
  intro listed i hi;simp [hi]
 intro fuel
 induction fuel with
 | zero =>
  intro t listed S hs hl hf i hi
  by_cases h:i∈S
  · exact h
  · have:i∈(List.range os.size).filter fun i=>!S.contains i:=List.mem_filter.2 ⟨List.mem_range.2 (by omega),by simpa using h⟩
    have:=List.length_pos_of_mem this
    omega
 | succ fuel ih =>
  intro t listed S hs hl hf
  simp only [Region.linearise.go]
  change Runs ops S (match (Region.ready .any os listed)[t % (Region.ready .any os listed).length]? with
   | some i=>Region.linearise.go .any os fuel (t / (Region.ready .any os listed).length) (listed.setIfInBounds i true) [i]
   | none=>[].reverse)
  cases hi:(Region.ready .any os listed)[t % (Region.ready .any os listed).length]? with
  | none =>
   have hnil:Region.ready .any os listed=[]:=by
    cases hr:Region.ready .any os listed with
    | nil=>rfl
    | cons x xs =>
     rw [hr] at hi
     have hlt:t % (x :: xs).length<(x :: xs).length:=Nat.mod_lt _ (by simp)
     simp at hi
     simp at hlt
     omega
   intro i hi
   induction i using Nat.strongRecOn with
   | _ i ihi =>
    rcases Classical.em (i∈S) with h | h
    · exact h
    · exfalso
      have hb:i<os.size:=by omega
      have hmem:i∈Region.ready .any os listed:=by
       refine List.mem_filter.2 ⟨List.mem_range.2 hb,?_⟩
       have h1:listed.getD i false=false:=by cases hx:listed.getD i false with
        | false=>rfl
        | true=>exact absurd ((hl i hb).1 hx) h
       rw [hgd listed i (by omega),h1]
       have hoi:os[i]? = some os[i]:=by simp [hb]
       have hopi:ops[i]? = some (zI P n os os[i]):=by rw [hops,List.getElem?_map];simp [hb]
       rw [hoi]
       simp only [Bool.not_false,Bool.true_and,Option.map_some,Option.getD_some]
       refine Array.all_eq_true_iff_forall_mem.2 fun e he=>?_
       cases hbe:Region.binds .any e with
       | false=>rfl
       | true =>
        have hlt:=hwf i _ hopi e.on (by rw [haft];exact List.mem_map_of_mem (List.mem_filter.2 ⟨by simpa using he,hbe⟩))
        simp only [Bool.not_true,Bool.false_or]
        exact (hl _ (by omega)).2 (ihi _ hlt (by omega))
      rw [hnil] at hmem;cases hmem
  | some i =>
   simp only []
   rw [linearise_go_acc,List.reverse_singleton,List.singleton_append]
   have hm:=List.mem_of_getElem? hi
   obtain ⟨h1,o,h2,h3⟩:=mem_ready.1 hm
   have hb:i<os.size:=(Array.getElem?_eq_some_iff.1 h2).1
   have hopi:ops[i]? = some (zI P n os o):=by rw [hops,List.getElem?_map];simp [h2]
   have hnS:i∉S:=fun h=>by rw [hgd listed i (by omega)] at h1;rw [(hl i hb).2 h] at h1;cases h1
   refine ⟨hnS,⟨_,hopi,fun k hk=>?_⟩,ih _ _ _ (by simpa using hs) (fun x hx=>?_) ?_⟩
   · have hki:=hwf i _ hopi k hk
     rw [haft] at hk
     obtain ⟨e,he,rfl⟩:=List.mem_map.1 hk
     obtain ⟨he1,he2⟩:=List.mem_filter.1 he
     exact (hl _ (by omega)).1 (h3 e (by simpa using he1) he2)
   · by_cases hxi:i=x
     · subst hxi;simp [hb,hs]
     · have:(listed.setIfInBounds i true).getD x false=listed.getD x false:=by
        simp only [Array.getD_eq_getD_getElem?,Array.getElem?_setIfInBounds];rw [if_neg hxi]
       rw [this,hl x hx];simp [Ne.symm hxi]
   · have hrem:((List.range os.size).filter fun e=>!(i :: S).contains e)=((List.range os.size).filter fun e=>!S.contains e).filter (· != i):=by
      rw [List.filter_filter];apply List.filter_congr;intro x _;by_cases hx:x=i<;>simp [hx]
     have hlen:(((List.range os.size).filter fun e=>!S.contains e).filter (· != i)).length<((List.range os.size).filter fun e=>!S.contains e).length:=by
      rw [List.length_filter_lt_length_iff_exists]
      exact ⟨i,List.mem_filter.2 ⟨List.mem_range.2 hb,by simpa using hnS⟩,by simp⟩
     rw [hrem];omega
def uk (F:AFr):List AOper→List AV→AFr
 | o :: r,v :: vs=>uk (F.set o.dst v) r vs
 | _,_=>F
def s3 (B chain:List Nat) (i j:Nat):Bool :=
 (chain.take j).all (fun e=>!(B.getD e 0).testBit i) && (chain.drop j).all (fun e=>!(B.getD i 0).testBit e)
inductive DOp (E:Env) (B chain:List Nat) (Ff:AFr) (Hs:List zz) (i:Nat) (o:AOper) (v:AV):Prop
 | skip (hg:ry Ff o.guard) (hv:v=.undef∨v=skV o) (hc:chain.contains i=false)
 | free (hg:zH Ff o.guard=some true) (h:∀ H,∃ c,zF E.G o.op Ff H=some (c,v,H)∧c=true) (hc:chain.contains i=false)
 | look (hg:zH Ff o.guard=some true) (h:∀ (j:Nat) H,Hs[j]? = some H→s3 B chain i j=true→∃ c,zF E.G o.op Ff H=some (c,v,H)∧c=true) (hc:chain.contains i=false)
 | call (f:FuncId) (xs:List Opd) (args:List AV) (hg:zH Ff o.guard=some true) (ho:o.op=.call f xs) (ha:xs.map (·.ev E.G Ff)=args) (hen:xu E.P f)
  (h:∀ (j:Nat) H,Hs[j]? = some H→s3 B chain i j=true→ACall E f args H fun v' H'=>v'=v∧H'=H) (hc:chain.contains i=false)
 | bslf (kk:Nat) (xs:List Opd) (es:List AV) (hg:zH Ff o.guard=some true) (ho:o.op=.bslice kk xs) (ha:xs.map (·.ev E.G Ff)=es) (hf:wK kk es=true) (hv:v=.isl kk es) (hc:chain.contains i=false)
 | eff (j:Nat) (H H':zz) (c:Bool) (hg:zH Ff o.guard=some true) (hj:chain[j]? = some i) (h1:Hs[j]? = some H) (h2:Hs[j+1]? = some H') (h:zF E.G o.op Ff H=some (c,v,H')) (hc:c=true)
 | ecall (j:Nat) (H H':zz) (f:FuncId) (xs:List Opd) (args:List AV) (hg:zH Ff o.guard=some true) (hj:chain[j]? = some i) (h1:Hs[j]? = some H) (h2:Hs[j+1]? = some H') (ho:o.op=.call f xs) (ha:xs.map (·.ev E.G Ff)=args) (hen:xu E.P f)
  (h:ACall E f args H fun v' H''=>v'=v∧H''=H')
def uZ (ops:List AOper) (B:List Nat):Bool :=
 (List.range ops.length).all fun i=>match ops[i]? with
  | some o=>o.after.all (Nat.blt · i) && (match o.dst with
   | some d=>(List.range ops.length).all fun k=>Nat.beq k i || (match ops[k]? with | some o'=>(match o'.dst with | some d'=>!Nat.beq d' d | none=>true) | none=>true)
   | none=>true) && o.looks.all fun t=>(List.range ops.length).all fun k=>match ops[k]? with
    | some o'=>(match o'.dst with | some d=>!Nat.beq d t || (B.getD i 0).testBit k | none=>true)
    | none=>true
  | none=>true
structure WfD (ops:List AOper) (B:List Nat):Prop where
 aft:∀ (i:Nat) (o:AOper),ops[i]? = some o→∀ k∈o.after,k<i
 dst:∀ (i k:Nat) (o o':AOper) d,ops[i]? = some o→ops[k]? = some o'→o.dst=some d→o'.dst=some d→k=i
 look:∀ (i k:Nat) (o o':AOper) t,ops[i]? = some o→ops[k]? = some o'→t∈o.looks→o'.dst=some t→(B.getD i 0).testBit k=true
theorem wfDraw_spec {ops:List AOper} {B:List Nat} (h:uZ ops B=true):WfD ops B:=by
 have lt:∀ (i:Nat) (o:AOper),ops[i]? = some o→i<ops.length:=fun i o h=>(List.getElem?_eq_some_iff.1 h).1
 unfold uZ at h
 simp only [List.all_eq_true,List.mem_range] at h
 refine ⟨fun i o hi k hk=>?_,fun i k o o' d hi hk h1 h2=>?_,fun i k o o' t hi hk h1 h2=>?_⟩
 · have h0:=h i (lt i o hi)
   simp only [hi,Bool.and_eq_true,List.all_eq_true] at h0
   have:=h0.1.1 k hk
   exact Nat.le_of_ble_eq_true this
 · have h0:=h i (lt i o hi)
   simp only [hi,h1,Bool.and_eq_true,List.all_eq_true,List.mem_range] at h0
   have h3:=h0.1.2 k (lt k o' hk)
   simp only [hk,h2,Bool.or_eq_true,Nat.beq_refl] at h3
   rcases h3 with h3 | h3
   · exact Nat.eq_of_beq_eq_true h3
   · cases h3
 · have h0:=h i (lt i o hi)
   simp only [hi,Bool.and_eq_true,List.all_eq_true,List.mem_range] at h0
   have h3:=h0.2 t h1 k (lt k o' hk)
   simp only [hk,h2,Nat.beq_refl,Bool.not_true,Bool.false_or] at h3
   exact h3
theorem AFr.get_set (F:AFr) (d:Option Nat) (v:AV) (t:Nat):(F.set d v).get t=if d=some t then v else F.get t:=by
 cases d with
 | none=>simp [AFr.set]
 | some d =>
  simp only [AFr.set,AFr.get]
  by_cases e:d=t
  · subst e;simp [Nat.beq_refl]
  · have hb:Nat.beq d t=false:=by cases hbb:Nat.beq d t with
     | false=>rfl
     | true=>exact absurd (Nat.eq_of_beq_eq_true hbb) e
    rw [hb,cond_false,if_neg (by simpa using e)]
theorem vg : ∀ (ops:List AOper) (V:List AV) (F:AFr) (t:Nat),(∀ (i:Nat) o,ops[i]? = some o→o.dst≠some t)→(uk F ops V).get t=F.get t
 | [],_,F,t,h=>by simp [uk]
 | o :: r,[],F,t,h=>by simp [uk]
 | o :: r,v :: vs,F,t,h=>by
  simp only [uk]
  rw [vg r vs _ t (fun i o' hi=>h (i+1) o' hi),AFr.get_set,if_neg (h 0 o rfl)]
theorem finF_some : ∀ (ops:List AOper) (V:List AV) (F:AFr) (i:Nat) (o:AOper) (v:AV) (t:Nat),ops[i]? = some o→V[i]? = some v→o.dst=some t→(∀ (k:Nat) o',ops[k]? = some o'→o'.dst=some t→k=i)→(uk F ops V).get t=v
 | [],_,F,i,o,v,t,h,_,_,_=>by simp at h
 | _ :: _,[],F,i,o,v,t,_,h,_,_=>by simp at h
 | o0 :: r,v0 :: vs,F,0,o,v,t,h1,h2,h3,h4=>by
  simp at h1 h2;subst h1 h2
  simp only [uk]
  rw [vg r vs _ t (fun i o' hi hd=>by have:=h4 (i+1) o' (by simpa using hi) hd;omega),AFr.get_set,if_pos h3]
 | o0 :: r,v0 :: vs,F,i+1,o,v,t,h1,h2,h3,h4=>by
  simp only [uk]
  exact finF_some r vs _ i o v t (by simpa using h1) (by simpa using h2) h3 (fun k o' hk hd=>by have:=h4 (k+1) o' (by simpa using hk) hd;omega)
section
variable {E:Env} {n N:Nat} {F:AFr} {H:zz}
theorem sim {ops:List AOper} {B chain effs:List Nat} {V:List AV} {Hs:List zz} {Q:AFr→zz→Prop} (wf:WfD ops B) (hB:∀ i k,(B.getD i 0).testBit k=true→Anc ops k i) (hV:V.length=ops.length) (hHs:Hs.length=chain.length+1) (hnd:chain.Nodup) (hef:∀ i,effs.contains i=chain.contains i)
 (hD:∀ (i:Nat) o v,ops[i]? = some o→V[i]? = some v→DOp E B chain (uk F ops V) Hs i o v) (hQ:∀ F' Hm,Hs[chain.length]? = some Hm→(∀ t,F'.get t=(uk F ops V).get t)→Q F' Hm) :
 ∀ (l S:List Nat) (Fc:AFr) (j:Nat) (Hj:zz),Runs ops S l→rq ops S→(∀ i∈S,∀ o v d,ops[i]? = some o→V[i]? = some v→o.dst=some d→Fc.get d=v)→(∀ t,(∀ (i:Nat) o,ops[i]? = some o→o.dst≠some t)→Fc.get t=F.get t) →
  Hs[j]? = some Hj→chain.drop j=l.filter (effs.contains ·)→(∀ e∈chain.take j,e∈S)→AOps E n N (l.map fun i=>ops.getD i default) Fc Hj Q:=by
 have hfin:∀ (i:Nat) o v d,ops[i]? = some o→V[i]? = some v→o.dst=some d→(uk F ops V).get d=v:=fun i o v d h1 h2 h3=>finF_some ops V F i o v d h1 h2 h3 fun k o' hk hd=>wf.dst i k o o' d h1 hk h3 hd
 have getV:∀ (i:Nat) o,ops[i]? = some o→∃ v,V[i]? = some v:=fun i o h=>⟨_,List.getElem?_eq_getElem (by have:=(List.getElem?_eq_some_iff.1 h).1;omega)⟩
 have look:∀ (S:List Nat) (Fc:AFr),rq ops S→(∀ i∈S,∀ o v d,ops[i]? = some o→V[i]? = some v→o.dst=some d→Fc.get d=v)→(∀ t,(∀ (i:Nat) o,ops[i]? = some o→o.dst≠some t)→Fc.get t=F.get t) →
  ∀ (i:Nat) (o:AOper),ops[i]? = some o→(∀ k∈o.after,k∈S)→∀ t∈o.looks,Fc.get t=(uk F ops V).get t:=by
  intro S Fc hS ha hb i o hi haft t ht
  rcases Classical.em (∃ (k:Nat) (o':AOper),ops[k]? = some o'∧o'.dst=some t) with ⟨k,o',hk,hd⟩ | hno
  · obtain ⟨v,hv⟩:=getV k o' hk
    have hkS:=(hB i k (wf.look i k o o' t hi hk ht hd)).mem hS ⟨o,hi,haft⟩
    rw [hfin k o' v t hk hv hd];exact ha k hkS o' v t hk hv hd
  · have hno':∀ (i:Nat) o,ops[i]? = some o→o.dst≠some t:=fun k o' hk hd=>hno ⟨k,o',hk,hd⟩
    rw [hb t hno',vg ops V F t hno']
 intro l
 induction l with
 | nil =>
  intro S Fc j Hj hr hS ha hb hj hch htk
  have hjle:j=chain.length:=by
   have h1:chain.length≤j:=by simpa using List.drop_eq_nil_iff.1 hch
   have h2:=(List.getElem?_eq_some_iff.1 hj).1
   omega
  subst hjle
  refine aops_nil (hQ Fc Hj hj fun t=>?_)
  rcases Classical.em (∃ (k:Nat) (o':AOper),ops[k]? = some o'∧o'.dst=some t) with ⟨k,o',hk,hd⟩ | hno
  · obtain ⟨v,hv⟩:=getV k o' hk
    rw [hfin k o' v t hk hv hd];exact ha k (hr k (List.getElem?_eq_some_iff.1 hk).1) o' v t hk hv hd
  · have hno':∀ (i:Nat) o,ops[i]? = some o→o.dst≠some t:=fun k o' hk hd=>hno ⟨k,o',hk,hd⟩
    rw [hb t hno',vg ops V F t hno']
 | cons i l ih =>
  intro S Fc j Hj hr hS ha hb hj hch htk
  have hnot:=hr.notin
  obtain ⟨h1,⟨o,ho,haft⟩,h3⟩:=hr
  obtain ⟨v,hv⟩:=getV i o ho
  have hget:ops.getD i default=o:=by simp [List.getD_eq_getElem?_getD,ho]
  rw [List.map_cons,hget]
  have hS':rq ops (i :: S):=by
   intro x hx o' ho' k hk
   rcases List.mem_cons.1 hx with rfl | hx
   · rw [ho] at ho';cases ho';exact List.mem_cons_of_mem _ (haft k hk)
   · exact List.mem_cons_of_mem _ (hS x hx o' ho' k hk)
  have hlk:=look S Fc hS ha hb i o ho haft
  have hwant:=ye hlk
  have hev:=xX (G:=E.G) hlk
  have hop:∀ H,zF E.G o.op Fc H=zF E.G o.op (uk F ops V) H:=fun H=>yG hev
  -- the frame behind the operation
  have ha':∀ k∈i :: S,∀ o' v' d,ops[k]? = some o'→V[k]? = some v'→o'.dst=some d→(Fc.set o.dst v).get d=v':=by
   intro k hk o' v' d hk1 hk2 hk3
   rw [AFr.get_set]
   by_cases hd:o.dst=some d
   · have:=wf.dst i k o o' d ho hk1 hd hk3
     subst this
     rw [hv] at hk2;cases hk2;rw [if_pos hd]
   · rw [if_neg hd]
     rcases List.mem_cons.1 hk with rfl | hk
     · rw [ho] at hk1;cases hk1;exact absurd hk3 hd
     · exact ha k hk o' v' d hk1 hk2 hk3
  have hb':∀ t,(∀ (i:Nat) o,ops[i]? = some o→o.dst≠some t)→(Fc.set o.dst v).get t=F.get t:=by
   intro t ht;rw [AFr.get_set,if_neg (ht i o ho)];exact hb t ht
  have hpos:chain.contains i=false→s3 B chain i j=true:=by
   intro hc
   simp only [s3,Bool.and_eq_true,List.all_eq_true,Bool.not_eq_true']
   refine ⟨fun e he=>?_,fun e he=>?_⟩
   · cases hb2:(B.getD e 0).testBit i with
     | false=>rfl
     | true =>
      have heS:=htk e he
      have hanc:=hB e i hb2
      obtain ⟨oe,hoe⟩:∃ oe,ops[e]? = some oe:=by
       cases hanc with
       | one h2 _=>exact ⟨_,h2⟩
       | more h2 _ _=>exact ⟨_,h2⟩
      exact absurd (hanc.mem hS ⟨oe,hoe,hS e heS oe hoe⟩) h1
   · cases hb2:(B.getD i 0).testBit e with
     | false=>rfl
     | true =>
      have heS:=(hB i e hb2).mem hS ⟨o,ho,haft⟩
      rw [hch] at he
      exact absurd heS (hnot e (List.mem_filter.1 he).1)
  have quiet:chain.contains i=false→AOps E n N (l.map fun i=>ops.getD i default) (Fc.set o.dst v) Hj Q:=by
   intro hc
   refine ih (i :: S) _ j Hj h3 hS' ha' hb' hj ?_ (fun e he=>List.mem_cons_of_mem _ (htk e he))
   rw [hch,List.filter_cons_of_neg (by rw [hef,hc];simp)]
  have loud:∀ j' H',chain[j']? = some i→Hs[j'+1]? = some H'→j'=j∧AOps E n N (l.map fun i=>ops.getD i default) (Fc.set o.dst v) H' Q:=by
   intro j' H' hj' hH'
   have hc:chain.contains i=true:=by simpa using List.mem_of_getElem? hj'
   have hd:chain.drop j=i :: l.filter (effs.contains ·):=by rw [hch,List.filter_cons_of_pos (by rw [hef,hc])]
   have hij:chain[j]? = some i:=by
    have:(chain.drop j)[0]? = some i:=by rw [hd];rfl
    simpa using this
   have hjj:j'=j:=by
    obtain ⟨a1,a2⟩:=List.getElem?_eq_some_iff.1 hj'
    obtain ⟨b1,b2⟩:=List.getElem?_eq_some_iff.1 hij
    exact (List.getElem_inj hnd).1 (a2.trans b2.symm)
   subst hjj
   refine ⟨rfl,ih (i :: S) _ (j'+1) H' h3 hS' ha' hb' hH' ?_ fun e he=>?_⟩
   · have:=congrArg (List.drop 1) hd
     rw [List.drop_drop] at this
     simpa using this
   · rw [List.take_add_one,hij] at he
     rcases List.mem_append.1 he with he | he
     · exact List.mem_cons_of_mem _ (htk e he)
     · simp at he;subst he;exact List.mem_cons_self
  cases hD i o v ho hv with
  | skip hg hv0 hc=>exact aops_skipG (looks_skip hlk hg) hv0 (quiet hc)
  | free hg h hc=>obtain ⟨c,e1,e2⟩:=h Hj;exact wm (by rw [hwant];exact hg) (by rw [hop];exact e1) e2 (quiet hc)
  | look hg h hc=>obtain ⟨c,e1,e2⟩:=h j Hj hj (hpos hc);exact wm (by rw [hwant];exact hg) (by rw [hop];exact e1) e2 (quiet hc)
  | call f xs args hg ho2 harg hen h hc =>
   refine vG (by rw [hwant];exact hg) ho2 ?_ hen (h j Hj hj (hpos hc)) (by rintro v' H1 ⟨rfl,rfl⟩;exact quiet hc)
   rw [← harg];exact List.map_congr_left fun x hx=>hev x (by rw [ho2];exact hx)
  | bslf kk xs es hg ho2 harg hf hv0 hc =>
   refine aops_bslf (es:=es) (by rw [hwant];exact hg) ho2 ?_ hf (by rw [← hv0];exact quiet hc)
   rw [← harg];exact List.map_congr_left fun x hx=>hev x (by rw [ho2];exact hx)
  | eff j' H1 H2 c hg hj' e1 e2 h hc =>
   obtain ⟨rfl,hk⟩:=loud j' H2 hj' e2
   rw [hj] at e1;cases e1
   exact wm (by rw [hwant];exact hg) (by rw [hop];exact h) hc hk
  | ecall j' H1 H2 f xs args hg hj' e1 e2 ho2 harg hen h =>
   obtain ⟨rfl,hk⟩:=loud j' H2 hj' e2
   rw [hj] at e1;cases e1
   refine vG (by rw [hwant];exact hg) ho2 ?_ hen h (by rintro v' H1 ⟨rfl,rfl⟩;exact hk)
   rw [← harg];exact List.map_congr_left fun x hx=>hev x (by rw [ho2];exact hx)
theorem AOps.frame {aops:List AOper} {Q:AFr→zz→Prop} (h:AOps E n N aops F H (fun F' H'=>∃ F'',(∀ t,F'.get t=F''.get t)∧Q F'' H')):AOps E n N aops F H Q:=by
 intro ops l hl K w tmps T ds k cs h1 h2 h3
 obtain ⟨F',H',K',w',t',⟨F'',hg,q⟩,a1,a2,a3,a4⟩:=h ops l hl K w tmps T ds k cs h1 h2 h3
 exact ⟨F'',H',K',w',t',q,a1,⟨a2.1,fun t=>by rw [← hg t];exact a2.2 t⟩,a3,a4⟩
theorem awp_draw {ops:List AOper} {Q:zL→AFr→zz→Prop} (hm:E.P.follows .mixedOrders=true) (effs:List Nat) (hwf:uZ ops (vL ops [])=true) (hlt:effs.all (Nat.blt · ops.length)=true) (_hnd:effs.Nodup)
 (h:∀ chain∈xY (vL ops []) effs.length effs,∃ V Hs Hm,V.length=ops.length∧Hs.length=chain.length+1∧Hs[0]? = some H∧(∀ (i:Nat) o v,ops[i]? = some o→V[i]? = some v→DOp E (vL ops []) chain (uk F ops V) Hs i o v) ∧
  Hs[chain.length]? = some Hm∧Q .normal (uk F ops V) Hm):AWP E n N (.draw ops) F H Q:=by
 refine xH fun c hc hns K w tmps T rs k cs h1 h2 h3 h4=>?_
 cases c with
 | region id os d =>
  simp only [yF] at hc
  split at hc
  · rename_i hd
    subst hd
    simp only [ACode.draw.injEq] at hc
    have wf:=wfDraw_spec hwf
    have hB:∀ i k,((vL ops []).getD i 0).testBit k=true→Anc ops k i:=by
     have:=uJ ops [] [] rfl (fun i k hk=>by simp at hk)
     simpa using this
    let t:=w.tape w.drawn (.order T.fn id)
    have hlen:ops.length=os.size:=by rw [← hc];simp
    have hruns:Runs ops [] (Region.schedule (E.P.follows .mixedOrders) os t):=by
     rw [hm]
     simp only [Region.schedule,Bool.true_or,if_true,Region.linearise]
     refine go_runs hc.symm wf.aft os.size t _ [] (by simp) (fun i hi=>by simp [hi]) (by have:=List.length_filter_le (fun i=>!([]:List Nat).contains i) (List.range os.size);simpa using this)
    have hltP:∀ e∈effs,e<ops.length:=fun e he=>Nat.le_of_ble_eq_true (List.all_eq_true.1 hlt e he)
    have hch:=chains_mem (B:=vL ops []) hB effs hltP _ [] effs.length (fun i hi=>by cases hi) hruns (List.length_filter_le _ _)
    have hself:(effs.filter fun e=>!([]:List Nat).contains e)=effs:=by simp
    rw [hself] at hch
    obtain ⟨V,Hs,Hm,hV,hHs,h0,hD,hHm,hq⟩:=h _ hch
    generalize hsch:Region.schedule (E.P.follows .mixedOrders) os t=l at hruns hch hHs hD hHm
    have hall:∀ e,e<ops.length→e∈l:=by
     have:∀ (l S:List Nat),Runs ops S l→∀ e,e<ops.length→e∈S∨e∈l:=by
      intro l
      induction l with
      | nil=>intro S hr e he;exact .inl (hr e he)
      | cons x l ih =>
       intro S hr e he
       rcases ih _ hr.2.2 e he with h | h
       · rcases List.mem_cons.1 h with rfl | h
         · exact .inr List.mem_cons_self
         · exact .inl h
       · exact .inr (List.mem_cons_of_mem _ h)
     intro e he
     rcases this l [] hruns e he with h | h
     · cases h
     · exact h
    have hef:∀ i,effs.contains i=(l.filter (effs.contains ·)).contains i:=by
     intro i
     rw [Bool.eq_iff_iff]
     simp only [List.contains_iff_mem,List.mem_filter]
     exact ⟨fun hi=>⟨hall i (hltP i hi),hi⟩,fun hi=>hi.2⟩
    have key:=sim (E:=E) (n:=n) (N:=N) (F:=F) (Q:=fun F' H'=>∃ F'',(∀ t,F'.get t=F''.get t)∧Q .normal F'' H') wf hB hV hHs (hruns.nodup.filter _) hef hD
     (fun F' Hm' hHm' hg=>by rw [hHm] at hHm';cases hHm';exact ⟨_,hg,hq⟩) l [] F 0 H hruns (fun i hi=>by cases hi) (fun i hi=>by cases hi) (fun t _=>rfl) h0 (by simp) (fun e he=>by simp at he)
    have key:=AOps.frame key
    have hlm:l.map (fun i=>(os[i]?).map (zI E.P n os))=(l.map fun i=>ops.getD i default).map some:=by
     rw [List.map_map]
     refine List.map_congr_left fun i hi=>?_
     have hi':i<ops.length:=by
      have:∀ (l S:List Nat),Runs ops S l→∀ e∈l,e<ops.length:=by
       intro l
       induction l with
       | nil=>intro S _ e he;cases he
       | cons x l ih =>
        intro S hr e he
        rcases List.mem_cons.1 he with rfl | he
        · obtain ⟨o,ho,_⟩:=hr.2.1;exact (List.getElem?_eq_some_iff.1 ho).1
        · exact ih _ hr.2.2 e he
      exact this l [] hruns i hi
     have:ops[i]? = (os[i]?).map (zI E.P n os):=by rw [← hc];simp
     rw [← this]
     simp [List.getD_eq_getElem?_getD,hi']
    obtain ⟨g1,g2⟩:=h1.drew
    obtain ⟨F1,H1,K1,w1,t1,q,a1,a2,a3,a4⟩:=key os l hlm K w.drew tmps T (rs.map xe) k cs g1 ((Ev.mv h1 g2).frep h2) h3
    have evA:=(g2.mono h3).trans a3
    refine ⟨.normal,F1,H1,K1,w1,t1,[],k,q,a1,a2,evA,h4.ev evA,(fun r hr=>by cases hr),.normal,.head st_region_draw ?_⟩
    rw [hsch]
    exact a4.trans (.one st_region_end)
  · cases hc
 | rangeFunc f ps a b=>simp only [yF] at hc;split at hc<;>cases hc
 | scope a=>exact absurd rfl (hns a)
 | _=>cases hc
def DOpL (E:Env) (B chain:List Nat) (Ff:AFr) (Hs:List zz):Nat→List AOper→List AV→Prop
 | _,[],[]=>True
 | i,o :: r,v :: vs=>DOp E B chain Ff Hs i o v∧DOpL E B chain Ff Hs (i+1) r vs
 | _,_,_=>False
theorem DOpL.spec {B chain:List Nat} {Ff:AFr} {Hs:List zz}:∀ {b:Nat} {ops:List AOper} {V:List AV},DOpL E B chain Ff Hs b ops V→V.length=ops.length∧∀ (i:Nat) o v,ops[i]? = some o→V[i]? = some v→DOp E B chain Ff Hs (b+i) o v
 | b,[],[],_=>⟨rfl,fun i o v h=>by simp at h⟩
 | b,o :: r,v :: vs,h=>by
  obtain ⟨h1,h2⟩:=DOpL.spec h.2
  refine ⟨by simp [h1],fun i o' v' ho hv=>?_⟩
  cases i with
  | zero=>simp at ho hv;subst ho hv;exact h.1
  | succ i =>
   have:=h2 i o' v' (by simpa using ho) (by simpa using hv)
   rw [show b+1+i=b+(i+1) by omega] at this
   exact this
 | b,[],_ :: _,h=>h.elim
 | b,_ :: _,[],h=>h.elim
end
end Go.Am
end
section
namespace Go.Am
inductive QR (E:Env) (H:zz):List AOper→AFr→AFr→Prop
 | nil (F):QR E H [] F F
 | op {o l F F' v} (hg:zH F o.guard=some true) (h:zF E.G o.op F H=some (true,v,H)) (r:QR E H l (F.set o.dst v) F'):QR E H (o :: l) F F'
 | call {o l F F' v} (f:FuncId) (xs:List Opd) (args:List AV) (hg:zH F o.guard=some true) (ho:o.op=.call f xs) (ha:xs.map (·.ev E.G F)=args) (hen:xu E.P f) (h:ACall E f args H fun v' H'=>v'=v∧H'=H) (r:QR E H l (F.set o.dst v) F'):QR E H (o :: l) F F'
 | skip {o l F F'} (hg:zH F o.guard=some false) (r:QR E H l (F.set o.dst .undef) F'):QR E H (o :: l) F F'
theorem QR.append {E:Env} {H:zz} {a b:List AOper} {F F1 F2:AFr} (h1:QR E H a F F1) (h2:QR E H b F1 F2):QR E H (a++b) F F2:=by
 induction h1 with
 | nil F=>exact h2
 | op hg h _ ih=>exact .op hg h (ih h2)
 | call f xs args hg ho ha hen h _ ih=>exact .call f xs args hg ho ha hen h (ih h2)
 | skip hg _ ih=>exact .skip hg (ih h2)
theorem QR.get {E:Env} {H:zz} {l:List AOper} {F F':AFr} (h:QR E H l F F') (t:Nat) (hd:∀ o∈l,o.dst≠some t):F'.get t=F.get t:=by
 induction h with
 | nil F=>rfl
 | @op o l F F' v hg h r ih=>rw [ih (fun o ho=>hd o (List.mem_cons_of_mem _ ho)),AFr.get_set,if_neg (hd o List.mem_cons_self)]
 | @call o l F F' v f xs args hg ho ha hen h r ih=>rw [ih (fun o ho=>hd o (List.mem_cons_of_mem _ ho)),AFr.get_set,if_neg (hd o List.mem_cons_self)]
 | @skip o l F F' hg r ih=>rw [ih (fun o ho=>hd o (List.mem_cons_of_mem _ ho)),AFr.get_set,if_neg (hd o List.mem_cons_self)]
theorem QR.vals {E:Env} {H:zz} {l:List AOper} {F F':AFr} (h:QR E H l F F') (hl:∀ (i:Nat) o,l[i]? = some o→∀ t∈o.looks,∀ (k:Nat) o',i≤k→l[k]? = some o'→o'.dst≠some t) :
 ∃ V,V.length=l.length∧F'=uk F l V∧∀ (i:Nat) o v,l[i]? = some o→V[i]? = some v→(zH F' o.guard=some true∧zF E.G o.op F' H=some (true,v,H))∨(zH F' o.guard=some false∧v=.undef) ∨
  (zH F' o.guard=some true∧∃ f xs args,o.op=.call f xs∧xs.map (·.ev E.G F')=args∧xu E.P f∧ACall E f args H fun v' H'=>v'=v∧H'=H):=by
 induction h with
 | nil F=>exact ⟨[],rfl,rfl,fun i o v h=>by simp at h⟩
 | @op o l F F' v hg he r ih =>
  obtain ⟨V,h1,h2,h3⟩:=ih (fun i o' ho t ht k o'' hk ho''=>hl (i+1) o' (by simpa using ho) t ht (k+1) o'' (by omega) (by simpa using ho''))
  have hlk:∀ t∈o.looks,F.get t=F'.get t:=fun t ht=>by
   rw [QR.get r t (fun o' ho'=>by obtain ⟨k,hk⟩:=List.getElem?_of_mem ho';exact hl 0 o rfl t ht (k+1) o' (by omega) (by simpa using hk)),AFr.get_set,if_neg (hl 0 o rfl t ht 0 o (Nat.le_refl _) rfl)]
  refine ⟨v :: V,by simp [h1],by simp only [uk];exact h2,fun i o' v' ho' hv'=>?_⟩
  cases i with
  | zero =>
   simp at ho' hv';subst ho' hv'
   exact .inl ⟨by rw [← ye hlk];exact hg,by rw [← yG (xX hlk)];exact he⟩
  | succ i=>exact h3 i o' v' (by simpa using ho') (by simpa using hv')
 | @call o l F F' v f xs args hg ho ha hen he r ih =>
  obtain ⟨V,h1,h2,h3⟩:=ih (fun i o' ho t ht k o'' hk ho''=>hl (i+1) o' (by simpa using ho) t ht (k+1) o'' (by omega) (by simpa using ho''))
  have hlk:∀ t∈o.looks,F.get t=F'.get t:=fun t ht=>by
   rw [QR.get r t (fun o' ho'=>by obtain ⟨k,hk⟩:=List.getElem?_of_mem ho';exact hl 0 o rfl t ht (k+1) o' (by omega) (by simpa using hk)),AFr.get_set,if_neg (hl 0 o rfl t ht 0 o (Nat.le_refl _) rfl)]
  refine ⟨v :: V,by simp [h1],by simp only [uk];exact h2,fun i o' v' ho' hv'=>?_⟩
  cases i with
  | zero =>
   simp at ho' hv';subst ho' hv'
   refine .inr (.inr ⟨by rw [← ye hlk];exact hg,f,xs,args,ho,?_,hen,he⟩)
   rw [← ha]
   exact (List.map_congr_left fun x hx=>xX hlk x (by rw [ho];exact hx)).symm
  | succ i=>exact h3 i o' v' (by simpa using ho') (by simpa using hv')
 | @skip o l F F' hg r ih =>
  obtain ⟨V,h1,h2,h3⟩:=ih (fun i o' ho t ht k o'' hk ho''=>hl (i+1) o' (by simpa using ho) t ht (k+1) o'' (by omega) (by simpa using ho''))
  have hlk:∀ t∈o.looks,F.get t=F'.get t:=fun t ht=>by
   rw [QR.get r t (fun o' ho'=>by obtain ⟨k,hk⟩:=List.getElem?_of_mem ho';exact hl 0 o rfl t ht (k+1) o' (by omega) (by simpa using hk)),AFr.get_set,if_neg (hl 0 o rfl t ht 0 o (Nat.le_refl _) rfl)]
  refine ⟨.undef :: V,by simp [h1],by simp only [uk];exact h2,fun i o' v' ho' hv'=>?_⟩
  cases i with
  | zero =>
   simp at ho' hv';subst ho' hv'
   exact .inr (.inl ⟨by rw [← ye hlk];exact hg,rfl⟩)
  | succ i=>exact h3 i o' v' (by simpa using ho') (by simpa using hv')
theorem Anc.lt {ops:List AOper} {B:List Nat} (wf:WfD ops B) {k i:Nat} (h:Anc ops k i):k<i:=by
 induction h with
 | one h hk=>exact wf.aft _ _ h _ hk
 | more h hj _ ih=>exact Nat.lt_trans ih (wf.aft _ _ h _ hj)
theorem awp_drawq {E:Env} {n N:Nat} {F F':AFr} {H:zz} {ops:List AOper} {Q:zL→AFr→zz→Prop} (hm:E.P.follows .mixedOrders=true) (hwf:uZ ops (vL ops [])=true) (hr:QR E H ops F F') (hq:Q .normal F' H):AWP E n N (.draw ops) F H Q:=by
 have wf:=wfDraw_spec hwf
 have hB:∀ i k,((vL ops []).getD i 0).testBit k=true→Anc ops k i:=by
  have:=uJ ops [] [] rfl (fun i k hk=>by simp at hk)
  simpa using this
 obtain ⟨V,h1,h2,h3⟩:=hr.vals (fun i o ho t ht k o' hik hk hd=>by
  have:=(hB i k (wf.look i k o o' t ho hk ht hd)).lt wf
  omega)
 refine awp_draw hm [] hwf rfl List.nodup_nil fun chain hch=>?_
 have:chain=[]:=by simpa [xY] using hch
 subst this
 refine ⟨V,[H],H,h1,rfl,rfl,fun i o v ho hv=>?_,rfl,h2 ▸ hq⟩
 rw [← h2]
 rcases h3 i o v ho hv with ⟨a,b⟩ | ⟨a,b⟩ | ⟨a,f,xs,args,b1,b2,b3,b4⟩
 · exact .look a (fun j H' hj _=>by
    cases j with
    | zero=>simp at hj;subst hj;exact ⟨true,b,rfl⟩
    | succ j=>simp at hj) rfl
 · exact .skip (.inl a) (.inl b) rfl
 · exact .call f xs args a b1 b2 b3 (fun j H' hj _=>by
    cases j with
    | zero=>simp at hj;subst hj;exact b4
    | succ j=>simp at hj) rfl
theorem AWP.weakEnd {E:Env} {n N:Nat} {F:AFr} {H:zz} {ac:ACode} {Q:zL→AFr→zz→Prop} (h:AWP E n N ac F H (fun e F' H'=>∃ Fw,(∀ t,Fw.get t=F'.get t∨Fw.get t=.undef)∧Q e Fw H')):AWP E n N ac F H Q:=by
 intro c hc K w tmps T rs k cs h1 h2 h3 h4
 obtain ⟨e,F',H',K',w',tmps',nw,todo,⟨Fw,hw,q⟩,a1,a2,a3⟩:=h c hc K w tmps T rs k cs h1 h2 h3 h4
 refine ⟨e,Fw,H',K',w',tmps',nw,todo,q,a1,⟨a2.1,fun t=>?_⟩,a3⟩
 rcases hw t with e | e
 · rw [e];exact a2.2 t
 · rw [e];exact .undef _
end Go.Am
end
