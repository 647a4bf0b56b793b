/- The abstract machine that the walks of this claim are carried out on: no condition. -/
import Derived.Test.YtpfnahcfnclgdaaGreatDoorPAm6
import Derived.Test.YtpfnahcfnclgdaaGreatDoorPAm4
import Derived.Test.YtpfnahcfnclgdaaGreatDoorPAm5
import Derived.Shelf.Sort.Plain
import Derived.Shelf.Slices.In.SortNone
import Derived.Sort.OwnSortedInts
import Derived.Shelf.Slices.CompactI
import Derived.Shelf.Strings.Cut
import Derived.Shelf.Strings.Split
import Derived.Shelf.Strings.Prefix
import Derived.Shelf.Strings.Builder1
import Derived.ProofKit
import Derived.ReadAgain
import Derived.SizedLaws
import Derived.OpenShut
import Derived.LaidLaws
section
namespace Go.Am
def AYieldN (E:Env) (N l:Nat) (args:List AV) (H:zz) (R:AV→zz→Prop):Prop :=
 ∀ K w ys blk base,HRep E K w H→VReps K H.length w args ys→N≤H.length→K.γ l=some (blk,base) →
  ∃ r:Loop,w.heap[blk]? = some (.loop r)∧ys.length=r.params.size∧∀ (c:Frame) cs,∃ v y H' K' w',R v H'∧HRep E K' w' H'∧VRep K' H'.length w' v y∧Ev N K H w K' H' w' ∧
   Steps E.P (lone (Frame.round blk r.fn ((r.params.zip ys.toArray).foldl (fun tmps (t,a)=>tmps.setIfInBounds t a) r.tmps) r.assign r.body .normal) (c :: cs) w) (lone (c.finish y) cs w')
theorem ayield_roundN {E:Env} {N l:Nat} {args:List AV} {H:zz} {R:AV→zz→Prop} {F:AFr} {n:Nat} {ps:List Nat} {a b:ACode} {pd:Option zL} (hlN:l<N) (hl:H[l]? = some (.loop F n ps a b .ready pd)) (hlen:ps.length=args.length)
 (h:AWP E n N a (vM F ps args) H (fun e F1 H1=>e=.normal∧∃ pd1,H1[l]? = some (.loop F n ps a b .ready pd1) ∧
  AWP E n N b F1 (H1.set l (.loop F n ps a b .busy pd1)) (fun e F2 H2=>∃ pd2,H2[l]? = some (.loop F n ps a b .busy pd2) ∧
   match e with
   | .normal=>R (.val (.bool true)) (H2.set l (.loop F n ps a b .ready none))
   | e=>R (.val (.bool false)) (H2.set l (.loop F n ps a b .done (some e)))))):AYieldN E N l args H R:=by
 intro K w ys blk base h1 h2 hNH h4
 obtain ⟨r,g1,g2,g3,g4,g5,g6,g7,g8⟩:=h1.loop hl h4
 refine ⟨r,g1,by rw [← h2.1,← hlen,← g4];simp,fun c cs=>?_⟩
 let T:Fc:=⟨r.fn,.normal,some blk⟩
 have hF:=bindF_rep ps args ys F r.tmps g8 h2 hlen g5
 have htm:(r.params.zip ys.toArray).foldl (fun tmps (t,a)=>tmps.setIfInBounds t a) r.tmps=(ps.zip ys).foldl (fun tmps (p:Nat × Value)=>tmps.setIfInBounds p.1 p.2) r.tmps:=by
  rw [← Array.foldl_toList,Array.toList_zip,g4]
 rw [htm]
 generalize (ps.zip ys).foldl (fun tmps (p:Nat × Value)=>tmps.setIfInBounds p.1 p.2) r.tmps=t0 at hF ⊢
 have hround:Frame.round blk r.fn t0 r.assign r.body .normal=T.fr t0 ([].map xe) [.code r.assign,.beginRound,.code r.body]:=rfl
 rw [hround]
 have hlive:∀ {H2:zz} {K2:Ctx} {w2:World},Ev N K H w K2 H2 w2→K2.γ l=some (blk,base):=fun ev=>(ev.γ l hlN).trans h4
 obtain ⟨e,F1,H1,K1,w1,t1,nw,todo,⟨rfl,pd1,hl1,hb⟩,a1,a2,a3,a4,a5,a6,a7⟩:=h r.assign g6 K w t0 T [] [.beginRound,.code r.body] (c :: cs) h1 hF hNH
  ⟨fun q hq=>by cases hq;exact ⟨r,g1⟩,List.nodup_nil,(fun q hq=>by cases hq)⟩
 cases a6
 obtain ⟨r1,f1,f2,f3,f4,f5,f6,f7,f8⟩:=a1.loop hl1 (hlive a3)
 obtain ⟨b1,ev1⟩:=a1.setLoop (st':=.busy) hl1 (hlive a3) f1 f3
 have hst:=st_beginRound (P:=E.P) (T:=T) rfl (tmps:=t1) (ds:=(nw++[]).map xe) (k:=[.code r.body]) (cs:=c :: cs) f1 f2
 have hr1:({ r1 with state:=.busy,pending:=r1.pending }:Loop) = { r1 with state:=.busy }:=rfl
 rw [hr1] at b1 ev1
 have hN:N≤H1.length:=a3.len
 obtain ⟨e2,F2,H2,K2,w2,t2,nw2,todo2,⟨pd2,hl2,hR⟩,c1,c2,c3,c4,c5,c6,c7⟩:=hb r.body g7 K1 _ t1 T (nw++[]) [] (c :: cs) b1 (by rw [List.length_set];exact (Ev.mv a1 (ev1.mono (Nat.le_refl _))).frep a2 |> fun h=>by simpa using h) (by simpa using hN) (a4.ev ev1)
 have evA:Ev N K H w K2 H2 w2:=(a3.trans (ev1.mono hN)).trans c3
 obtain ⟨r2,d1,d2,d3,d4,d5,d6,d7,d8⟩:=c1.loop hl2 (hlive evA)
 have hpre:Steps E.P (lone (T.fr t0 ([].map xe) [.code r.assign,.beginRound,.code r.body]) (c :: cs) w) (lone (T.fr t2 ((nw2++(nw++[])).map xe) todo2) (c :: cs) w2):=a7.trans (.head hst c7)
 cases e2 with
 | normal =>
  cases c6
  have hlv:=uH (P:=E.P) (T:=T) rfl rfl (tmps:=t2) (ds:=(nw2++(nw++[])).map xe) (c:=c) (cs:=cs) d1 none (.inl ⟨rfl,rfl⟩)
  obtain ⟨k1,k2⟩:=c1.setLoop (st':=.ready) (pd':=none) hl2 (hlive evA) d1 .none
  exact ⟨_,_,_,K2,_,hR,k1,xD,evA.trans (k2.mono evA.len),hpre.trans (.one hlv)⟩
 | ret =>
  cases c6 with
  | ret k' =>
   have hlv:=uH (P:=E.P) (T:=T) rfl rfl (tmps:=t2) (ds:=(nw2++(nw++[])).map xe) (c:=c) (cs:=cs) d1 (some .ret) (.inr (.inl ⟨k',rfl,rfl⟩))
   obtain ⟨k1,k2⟩:=c1.setLoop (st':=.done) (pd':=some .ret) hl2 (hlive evA) d1 .ret
   exact ⟨_,_,_,K2,_,hR,k1,xD,evA.trans (k2.mono evA.len),hpre.trans (.one hlv)⟩
 | exit id =>
  cases c6 with
  | exit _ k' hk =>
   have hlv:=uH (P:=E.P) (T:=T) rfl rfl (tmps:=t2) (ds:=(nw2++(nw++[])).map xe) (c:=c) (cs:=cs) d1 (some (.exit id)) (.inr (.inr ⟨id,k',rfl,hk,rfl⟩))
   obtain ⟨k1,k2⟩:=c1.setLoop (st':=.done) (pd':=some (.exit id)) hl2 (hlive evA) d1 (.exit id)
   exact ⟨_,_,_,K2,_,hR,k1,xD,evA.trans (k2.mono evA.len),hpre.trans (.one hlv)⟩
theorem yx_ofN {E:Env} {K:Ctx} {n l blk base:Nat} {A:Nat→zz→Prop} {S:zz→Prop} {outs:List (List AV)} (hln:l<n) (hg:K.γ l=some (blk,base)) (hcl:∀ a∈outs,AV.closedL a=true)
 (hR:∀ (j:Nat) args,outs[j]? = some args→∀ H,A j H→AYieldN E n l args H fun v H'=>(v=.val (.bool true)∧A (j+1) H')∨(v=.val (.bool false)∧S H')) :
 YX ⟨E.P,E.G,XInv E K n A S,XInv.stable⟩ blk outs:=by
 intro j args hj H h0 hone Kc w ys hh hv
 obtain ⟨he,K2,H2,h1,_,h3,h4,h5,h6,h7,h8,h9⟩:=hh.x.ext 0 j false h0
 have hlow:∀ b,Kc.I b→b<w.heap.size:=hh.low
 let Kp:Ctx:={ K2 with I:=Kc.I }
 have hown:∀ b,yb Kp H2 b↔Kc.B b:=fun b=>(show yb Kp H2 b↔yb K2 H2 b from Iff.rfl).trans (h4 b)
 have hp:HRep E Kp w H2:=h3.more rfl rfl rfl h5 (fun b hb hi=>hh.disj b (.inr ((h4 b).1 hb)) hi) hlow
 have hvp:VReps Kp H2.length w args ys:=vP (K:=Kc) (K':=Kp) (fun _ h=>h) hv (hcl args (List.mem_of_getElem? hj))
 obtain ⟨r,e1,e2,e3⟩:=hR j args hj H2 (h1 rfl) Kp w ys blk base hp hvp h7 ((h6 l hln).trans hg)
 refine ⟨r,e1,e2,fun c cs=>?_⟩
 obtain ⟨v,y,H3,K3,w3,hq,r3,v3,ev,st3⟩:=e3 c cs
 obtain ⟨st,hst⟩:∃ st:Bool,(st=false→A (j+1) H3)∧(st=true→S H3)∧((v=.val (.bool true)∧st=false)∨(v=.val (.bool false)∧st=true)):=by
  rcases hq with ⟨hq,ha⟩ | ⟨hq,ha⟩
  · exact ⟨false,fun _=>ha,(fun h=>by cases h),.inl ⟨hq,rfl⟩⟩
  · exact ⟨true,(fun h=>by cases h),fun _=>ha,.inr ⟨hq,rfl⟩⟩
 obtain ⟨a1,a2,a3⟩:=hst
 let K':Ctx:=⟨Kc.γ,K3.I,fun b=>yb K3 H3 b,Kc.e⟩
 have hfr:∀ b,b<w.heap.size→¬ Kc.B b→w3.heap[b]? = w.heap[b]?:=fun b hb hn=>ev.frame b hb (fun ho=>hn ((hown b).1 ho))
 have hIk:∀ b,Kc.I b→w3.heap[b]? = w.heap[b]?:=fun b hb=>hfr b (hlow b hb) fun hB=>hh.disj b (.inr hB) hb
 have hm:Mv Kc H.length w K' H.length w3:=⟨fun _ _=>rfl,Nat.le_refl _,ev.I,fun b hb o=>yI (hIk b hb) o,ev.cells⟩
 have hset:∀ (x:Nat) o,(H.set 0 (.ext (j+1) st))[x]? = some o→(x=0∧o=.ext (j+1) st)∨(x≠0∧H[x]? = some o):=by
  intro x o hx
  rw [List.getElem?_set] at hx
  by_cases e:0=x
  · subst e
    have:0<H.length:=(List.getElem?_eq_some_iff.1 h0).1
    simp [this] at hx;exact .inl ⟨rfl,hx.symm⟩
  · rw [if_neg e] at hx;exact .inr ⟨fun h=>e h.symm,hx⟩
 have ho1:∀ b,ws K' (H.set 0 (.ext (j+1) st)) b→ws Kc H b:=by
  rintro b ⟨x,o,bs,g1,g2,g3⟩
  rcases hset x o g1 with ⟨_,rfl⟩ | ⟨_,g1⟩
  · exact g2.elim
  · exact ⟨x,o,bs,g1,g2,g3⟩
 have hBo:∀ b,yb K3 H3 b→Kc.B b∨w.heap.size≤b:=fun b hb=>(ev.own b hb).imp (hown b).1 id
 have hlt1:∀ b,ws Kc H b→b<w.heap.size:=fun b hb=>yE hh (.inl hb)
 refine ⟨v,y,H.set 0 (.ext (j+1) st),K',w3,?_,⟨?_,?_,?_,r3.low,?_,?_⟩,?_,?_,st3⟩
 · rcases a3 with ⟨b1,rfl⟩ | ⟨b1,rfl⟩
   · exact .inl ⟨b1,rfl⟩
   · exact .inr ⟨b1,rfl⟩
 · intro x o hx
   rw [List.length_set]
   rcases hset x o hx with ⟨_,rfl⟩ | ⟨_,hx⟩
   · exact .ext _ _ _
   · exact hm.orep (hh.obj x o hx) fun b bs e hl=>hfr b (hlt1 b ⟨x,o,bs,hx,hl,e⟩) (hh.x.dis b ⟨x,o,bs,hx,hl,e⟩)
 · intro x x' o o' b b1 b2 g1 g2 l1 l2 e1 e2
   rcases hset x o g1 with ⟨_,rfl⟩ | ⟨_,g1⟩
   · exact l1.elim
   rcases hset x' o' g2 with ⟨_,rfl⟩ | ⟨_,g2⟩
   · exact l2.elim
   exact hh.inj x x' o o' b b1 b2 g1 g2 l1 l2 e1 e2
 · rintro b (hb | hb) hi
   · have hb:=ho1 b hb
     rcases ev.I' b hi with h | h | h
     · exact hh.disj b (.inl hb) h
     · exact hh.x.dis b hb ((hown b).1 h)
     · have:=hlt1 b hb;omega
   · exact r3.disj b hb hi
 · intro g
   exact VRep.mono (K:=Kc) (K':=K') (fun b hb=>absurd hb (Nat.not_lt_zero _)) (Nat.le_refl _) ev.I hm.wc hm.cells (hh.glob g)
 · refine ⟨fun b hb hB=>?_,fun b hb=>yE r3 hb,fun x j' st' hx=>?_⟩
   · rcases hBo b hB with h | h
     · exact hh.x.dis b (ho1 b hb) h
     · have:=hlt1 b (ho1 b hb);omega
   · rcases hset x _ hx with ⟨_,e⟩ | ⟨hne,hx⟩
     · cases e
       exact ⟨he,K3,H3,a1,a2,r3,fun b=>Iff.rfl,fun _ h=>h,fun b hb=>(ev.γ b hb).trans (h6 b hb),ev.len,fun b hb=>ev.I b (h5 b (h8 b hb)),ev.e.trans h9⟩
     · cases x with
       | zero=>exact absurd rfl hne
       | succ x=>exact absurd (show H.tail[x]? = some (.ext j' st') by rw [List.getElem?_tail];exact hx) (noExt_get hone)
 · have hvb:v=.val (.bool true)∨v=.val (.bool false):=by rcases a3 with ⟨h,_⟩ | ⟨h,_⟩;exact .inl h;exact .inr h
   rcases hvb with rfl | rfl<;>· cases v3;exact .val _ (by intro cs;simp)
 · exact ⟨fun _ _=>rfl,by simp,ev.I,fun b hb=>(ev.I' b hb).imp id (fun h=>h.imp (fun h=>.inr ((hown b).1 h)) id),fun b hb=>hb.elim (fun h=>.inl (.inl (ho1 b h))) (fun h=>(hBo b h).imp .inr id),
    fun b hb hn=>hfr b hb (fun h=>hn (.inr h)),ev.size,ev.cells,ev.loops,ev.os,ev.out,rfl⟩
theorem XCall.useN {E:Env} {g:FuncId} {cs:List AV} {outs:List (List AV)} (hc:XCall E.P E.G g cs outs) {H0:zz} {l:Nat} (A:Nat→zz→Prop) (S:zz→Prop) (h0:A 0 H0) (hl:l<H0.length) (hcs:AV.closedL cs=true) (hcl:∀ a∈outs,AV.closedL a=true)
 (hR:∀ (j:Nat) args,outs[j]? = some args→∀ H,A j H→AYieldN E H0.length l args H fun v H'=>(v=.val (.bool true)∧A (j+1) H')∨(v=.val (.bool false)∧S H')) :
 ACall E g (.yld l :: cs) H0 fun _ H'=>A outs.length H'∨S H':=by
 intro K w ys hh hv
 obtain ⟨y0,ys',rfl⟩:∃ y0 ys',ys=y0 :: ys':=by
  cases ys with
  | nil=>have:=hv.1;simp at this
  | cons a b=>exact ⟨a,b,rfl⟩
 have hy0:=hv.2 0 _ _ rfl rfl
 have hvs:VReps K H0.length w cs ys':=⟨by have:=hv.1;simpa using this,fun i x y hx hy=>hv.2 (i+1) x y (by simpa using hx) (by simpa using hy)⟩
 cases hy0 with
 | yld _ blk base hM hg =>
 let Kc:Ctx:=⟨fun _=>none,K.I,fun b=>yb K H0 b,true⟩
 let Ec:Env:=⟨E.P,E.G,XInv E K H0.length A S,XInv.stable⟩
 have hx0:XInv E K H0.length A S 0 false (fun b=>yb K H0 b) K.I w:=⟨K,H0,fun _=>h0,(fun h=>by cases h),hh,fun b=>Iff.rfl,fun _ h=>h,fun _ _=>rfl,Nat.le_refl _,fun _ h=>h,rfl⟩
 have hno:∀ b,¬ ws Kc [.ext 0 false] b:=by
  rintro b ⟨i,o,bs,g1,g2,g3⟩
  cases g3
 have hhc:HRep Ec Kc w [.ext 0 false]:=by
  refine ⟨fun b o hb=>?_,fun b b' o o' blk' b1 b2 g1 g2 l1 l2 e1 e2=>(by cases e1),fun b hb=>hb.elim (fun h=>(hno b h).elim) (fun h=>hh.disj b h),hh.low,fun g=>?_,⟨fun b hb=>(hno b hb).elim,fun b hb=>yE hh hb,fun b j st hb=>?_⟩⟩
  · cases b with
    | zero=>simp at hb;subst hb;exact .ext _ _ _
    | succ b=>simp at hb
  · exact VRep.mono (K:=K) (K':=Kc) (fun b hb=>absurd hb (Nat.not_lt_zero _)) (Nat.le_refl _) (fun _ h=>h) (fun _ _ _=>rfl) (fun b c ty fz h=>⟨c,fz,h,rfl⟩) (hh.glob g)
  · cases b with
    | zero=>simp at hb;obtain ⟨rfl,rfl⟩:=hb;exact ⟨rfl,hx0⟩
    | succ b=>simp at hb
 have hvc:VReps Kc [AObj.ext 0 false].length w (yv blk :: cs) (.func (.yield blk) #[] #[] :: ys'):=by
  have h2:=vP (K:=K) (K':=Kc) (M':=[AObj.ext 0 false].length) (fun _ h=>h) hvs hcs
  refine ⟨by simp [h2.1],fun i x y hx hy=>?_⟩
  cases i with
  | zero=>simp at hx hy;subst hx hy;exact .val _ (by intro cs;simp)
  | succ i=>exact h2.2 i x y (by simpa using hx) (by simpa using hy)
 have hyx:YX Ec blk outs:=yx_ofN hl hg hcl hR
 refine (hc.2 _ _ blk hyx Kc w _ hhc hvc).mono ?_
 rintro e w' ⟨v,y,H',K',rfl,hr,hh',hv',ev⟩
 obtain ⟨j,st,hH,hA⟩:∃ j st,H'=[.ext j st]∧∀ H2,(st=false→A j H2)→(st=true→S H2)→A outs.length H2∨S H2:=by
  rcases hr with rfl | ⟨j,rfl⟩
  · exact ⟨_,_,rfl,fun H2 h _=>.inl (h rfl)⟩
  · exact ⟨_,_,rfl,fun H2 _ h=>.inr (h rfl)⟩
 subst hH
 obtain ⟨_,K2,H2,h1,h2,h3,h4,h5,h6,h7,h8,h9⟩:=hh'.x.ext 0 j st rfl
 refine ⟨.undef,y,H2,K2,rfl,hA H2 h1 h2,h3,.undef _,⟨h6,h7,h8,fun b hb=>?_,fun b hb=>?_,fun b hb hn=>?_,ev.size,ev.cells,ev.loops,ev.os,ev.out,h9⟩⟩
 · rcases ev.I' b (h5 b hb) with h | h | h
   · exact .inl h
   · exact .inr (.inl (h.elim (fun h=>(hno b h).elim) id))
   · exact .inr (.inr h)
 · rcases ev.own b (.inr ((h4 b).1 hb)) with h | h
   · exact .inl (h.elim (fun h=>(hno b h).elim) id)
   · exact .inr h
 · exact ev.frame b hb fun h=>hn (h.elim (fun h=>(hno b h).elim) id)
theorem AYieldN.mono {E:Env} {N l:Nat} {args:List AV} {H:zz} {R R':AV→zz→Prop} (h:AYieldN E N l args H R) (hr:∀ v H',R v H'→R' v H'):AYieldN E N l args H R':=by
 intro K w ys blk base h1 h2 h3 h4
 obtain ⟨r,e1,e2,e3⟩:=h K w ys blk base h1 h2 h3 h4
 refine ⟨r,e1,e2,fun c cs=>?_⟩
 obtain ⟨v,y,H',K',w',a0,a1⟩:=e3 c cs
 exact ⟨v,y,H',K',w',hr _ _ a0,a1⟩
theorem AYieldN.hent {E:Env} {N l:Nat} {args:List AV} {H H2:zz} {R:AV→zz→Prop} (hlN:l<N) (h0:HEnt E N l H H2) (hc:AV.closedL args=true) (hN2:N≤H2.length)
 (h:AYieldN E N l args H2 fun v H'=>∃ b H3,v=.val (.bool b)∧HEnt E N l H' H3∧R v H3):AYieldN E N l args H R:=by
 intro K w ys blk base h1 h2 h3 h4
 obtain ⟨K1,g1,g2,g3⟩:=h0 K w h1 h3
 obtain ⟨r,e1,e2,e3⟩:=h K1 w ys blk base g1 (vP g2.I h2 hc) hN2 ((g2.γ l hlN).trans h4)
 refine ⟨r,e1,e2,fun c cs=>?_⟩
 obtain ⟨v,y,H',K',w',⟨b,H3,rfl,hE,hr⟩,a1,a2,a3,a4⟩:=e3 c cs
 obtain ⟨K3,k1,k2,k3⟩:=hE K' w' a1 a3.len
 refine ⟨_,y,H3,K3,w',hr,k1,?_,(g2.trans a3).trans k2,a4⟩
 cases a2;exact .val _ (by intro cs;simp)
def RdV {ι:Type} (E:Env) (l:Nat) (inv:ι→zz) (good:ι→Prop) (S:zz→Prop) (v:AV) (H':zz):Prop :=
 (v=.val (.bool true)∧∃ x,good x∧HEnt E (l+1) l H' (inv x))∨(v=.val (.bool false)∧S H')
section
variable {E:Env} {n N:Nat} {Q:zL→AFr→zz→Prop} {k:List KI} {F:AFr} {H:zz}
def s5 (E:Env) (n N:Nat) (Q:zL→AFr→zz→Prop) (k:List KI) (F:AFr) (ps:List Nat) (a b:ACode) (l:Nat) (H':zz):Prop :=
 ∃ e,H'[l]? = some (.loop F n ps a b .done (some e))∧zl E n N Q (.out e) k F (H'.set l .dead)
theorem on_rfunV {ι:Type} {f:Opd} {ps:List Nat} {a b:ACode} {g:FuncId} {cs:List AV} {outs:List (List AV)} (l:Nat) (inv:ι→zz) (good:Nat→ι→Prop) (x0:ι) (hl:H.length=l)
 (hf:f.ev E.G F=.fn g cs) (hc:XCall E.P E.G g cs outs) (hcs:AV.closedL cs=true) (hcl:∀ a∈outs,AV.closedL a=true) (hps:∀ args∈outs,ps.length=args.length)
 (g0:good 0 x0) (h0:HEnt E (l+1) l (H++[.loop F n ps a b .ready none]) (inv x0)) (hlp:∀ x,(inv x)[l]? = some (.loop F n ps a b .ready none))
 (hR:∀ (j:Nat) args,outs[j]? = some args→∀ x,good j x→zl E n (l+1) (tM E l (l+1) F n ps a b (RdV E l inv (good (j+1)) (s5 E n N Q k F ps a b l))) (.code a) [] (vM F ps args) (inv x))
 (hnil:outs=[]→zl E n N Q (.out .normal) k F (H++[.dead])) (hend:∀ x,good outs.length x→zl E n N Q (.out .normal) k F ((inv x).set l .dead)):zl E n N Q (.code (.rfun f ps a b)) k F H:=by
 subst hl
 have hlen:∀ x,H.length+1≤(inv x).length:=fun x=>(List.getElem?_eq_some_iff.1 (hlp x)).1
 refine sZ hf hc.1 ((hc.useN (H0:=H++[.loop F n ps a b .ready none]) (l:=H.length) (fun j H1=>(∃ x,good j x∧H1=inv x)∨(j=0∧H1=H++[.loop F n ps a b .ready none])) (s5 E n N Q k F ps a b H.length) (.inr ⟨rfl,rfl⟩) (by simp) hcs hcl (fun j args hj H1 hA=>?_)).mono (fun v H1 h=>?_))
 · have hn:(H++[AObj.loop F n ps a b .ready none]).length=H.length+1:=by simp
   rw [hn]
   have key:∀ x,good j x→AYieldN E (H.length+1) H.length args (inv x) (RdV E H.length inv (good (j+1)) (s5 E n N Q k F ps a b H.length)):=fun x hx =>
    ayield_roundN (Nat.lt_succ_self _) (hlp x) (hps args (List.mem_of_getElem? hj)) (AWP.mono (hR j args hj x hx) fun e F1 H1 ⟨h1,pd1,h2,h3⟩=>⟨h1,pd1,h2,AWP.mono h3 fun e F2 H2 h=>h⟩)
   have fin:∀ x,good j x→HEnt E (H.length+1) H.length H1 (inv x)→AYieldN E (H.length+1) H.length args H1 fun v H'=>(v=.val (.bool true)∧((∃ x,good (j+1) x∧H'=inv x)∨(j+1=0∧H'=H++[.loop F n ps a b .ready none])))∨(v=.val (.bool false)∧s5 E n N Q k F ps a b H.length H'):=fun x hx he=>by
    refine AYieldN.hent (Nat.lt_succ_self _) he (hcl args (List.mem_of_getElem? hj)) (hlen x) ((key x hx).mono fun v H' hr=>?_)
    rcases hr with ⟨rfl,x',hx',hE⟩ | ⟨rfl,hS⟩
    · exact ⟨true,inv x',rfl,hE,.inl ⟨rfl,.inl ⟨x',hx',rfl⟩⟩⟩
    · obtain ⟨e,he1,he2⟩:=hS
      exact ⟨false,H',rfl,HEnt.refl (List.getElem?_eq_some_iff.1 he1).1,.inr ⟨rfl,e,he1,he2⟩⟩
   rcases hA with ⟨x,hx,rfl⟩ | ⟨rfl,rfl⟩
   · exact fin x hx (HEnt.refl (Nat.lt_of_lt_of_le (Nat.lt_succ_self _) (hlen x)))
   · exact fin x0 g0 h0
 · rcases h with (⟨x,hx,rfl⟩ | ⟨h1,rfl⟩) | ⟨e,he1,he2⟩
   · exact ⟨.ready,none,hlp x,by decide,hend x hx⟩
   · exact ⟨.ready,none,by simp,by decide,by
      have:uo E n N Q k .normal F (H++[.dead]):=hnil (List.eq_nil_of_length_eq_zero h1)
      simpa using this⟩
   · exact ⟨.done,some e,he1,by decide,he2⟩
theorem vz {ι:Type} {N l:Nat} {inv:ι→zz} {good:ι→Prop} {S:zz→Prop} {ps:List Nat} {a b:ACode} {pd:Option zL} {F2:AFr} {H2:zz} (x:ι) (h1:H2[l]? = some (.loop F n ps a b .busy pd)) (hg:good x) (h:HEnt E (l+1) l (H2.set l (.loop F n ps a b .ready none)) (inv x)) :
 zl E n N (ta E l F n ps a b (RdV E l inv good S)) (.out .normal) [] F2 H2:=⟨pd,h1,.inl ⟨rfl,x,hg,h⟩⟩
theorem rndV_stop {ι:Type} {N N2 l:Nat} {inv:ι→zz} {good:ι→Prop} {e:zL} {ps:List Nat} {a b:ACode} {pd:Option zL} {F2:AFr} {H2:zz} (hne:e≠.normal) (h1:H2[l]? = some (.loop F n ps a b .busy pd)) (h:zl E n N2 Q (.out e) k F (H2.set l .dead)) :
 zl E n N (ta E l F n ps a b (RdV E l inv good (s5 E n N2 Q k F ps a b l))) (.out e) [] F2 H2:=by
 have h7:l<H2.length:=(List.getElem?_eq_some_iff.1 h1).1
 refine ⟨pd,h1,?_⟩
 cases e with
 | normal=>exact absurd rfl hne
 | _=>exact .inr ⟨rfl,_,by rw [List.getElem?_set_self h7],by rw [List.set_set];exact h⟩
end
theorem xf {σ:Nat→Sub} {b k n:Nat} {es:List AV} (hs:σ b=.isl k es) (hn:n=es.length):(AV.sl b k 0 n).sub σ=.isl k es:=by
 simp only [AV.sub,hs]
 subst hn
 simp
 rw [show es.length.ble es.length=true from Nat.ble_eq_true_of_le (Nat.le_refl _)];rfl
section
variable {E:Env} {n N:Nat} {Q:zL→AFr→zz→Prop} {k:List KI} {F:AFr} {H:zz}
theorem on_rfunW {ι:Type} {f:Opd} {ps:List Nat} {a b:ACode} {g:FuncId} {cs:List AV} {outs:List (List AV)} (l:Nat) (A B:ι→zz) (good:Nat→ι→Prop) (x0:ι) (hl:H.length=l) (hA:∀ x,(A x).length=l)
 (hf:f.ev E.G F=.fn g cs) (hc:XCall E.P E.G g cs outs) (hcs:AV.closedL cs=true) (hcl:∀ a∈outs,AV.closedL a=true) (hps:∀ args∈outs,ps.length=args.length)
 (g0:good 0 x0) (h0:HEnt E (l+1) l (H++[.loop F n ps a b .ready none]) (A x0++.loop F n ps a b .ready none :: B x0))
 (hR:∀ (j:Nat) args,outs[j]? = some args→∀ x,good j x→zl E n (l+1) (tM E l (l+1) F n ps a b (RdV E l (fun x=>A x++.loop F n ps a b .ready none :: B x) (good (j+1)) (s5 E n N Q k F ps a b l))) (.code a) [] (vM F ps args) (A x++.loop F n ps a b .ready none :: B x))
 (hnil:outs=[]→zl E n N Q (.out .normal) k F (H++[.dead])) (hend:∀ x,good outs.length x→zl E n N Q (.out .normal) k F (A x++.dead :: B x)):zl E n N Q (.code (.rfun f ps a b)) k F H :=
 on_rfunV l (fun x=>A x++.loop F n ps a b .ready none :: B x) good x0 hl hf hc hcs hcl hps g0 h0
  (fun x=>by rw [List.getElem?_append_right (by rw [hA];exact Nat.le_refl _),hA,Nat.sub_self];rfl) hR hnil
  (fun x hx=>by
   have:(A x++AObj.loop F n ps a b .ready none :: B x).set l .dead=A x++.dead :: B x:=by
    rw [List.set_append_right _ _ (by rw [hA];exact Nat.le_refl _),hA,Nat.sub_self];rfl
   rw [this];exact hend x hx)
end
end Go.Am
end
section
namespace Go.Am
def sy (d:Nat) (o:AOper):Bool:=match o.dst with
 | some x=>!Nat.beq x d
 | none=>true
def isPick (d:Nat) (o:AOp):Bool:=match o with
 | .pick (.t d') _ _=>Nat.beq d' d
 | _=>false
def sameG (d:Nat) (b:Bool) (g:Option (Nat × Bool)):Bool:=match g with
 | some (d',b')=>Nat.beq d' d && (b' == b)
 | none=>false
def sF (U:List Nat) (o:AOper):List Nat:=match o.dst with
 | some x=>x :: U
 | none=>U
def hasN (U:List Nat) (d:Nat):Bool:=U.any (Nat.beq · d)
def runN (X:xg) (G:Nat→AV):Nat→Nat→Bool→List Nat→List AOper→AFr→zz→Option (Cd × AFr × AOper × List AOper × List AOper)
 | 0,_,_,_,_,_,_=>none
 | _+1,_,_,_,[],_,_=>none
 | f+1,d,b,U,o :: l,F,H =>
  match isPick d o.op with
  | true=>some (.tt,F,o,l,[])
  | false=>match o.guard with
   | none=>none
   | some (d',b')=>match Nat.beq d' d && (b' == b) with
    | true=>match yJ o.op && sy d o with
     | false=>none
     | true=>match opX X G o.op F H with
      | some (c,v,_)=>match runN X G f d b (sF U o) l (F.set o.dst v) H with
       | some (c',F',p,rest,S)=>some (vQ c c',F',p,rest,o :: S)
       | none=>none
      | none=>none
    | false=>match F.get d' with
     | .val (.bool t')=>match hasN U d' with
      | false=>none
      | true=>match runN X G f d' b' [] (o :: l) F H with
       | some (c,F1,p,rest,S)=>match sameG d b p.guard && sy d p && S.all (sy d) && yJ p.op with
        | false=>none
        | true=>match v6 X G b' t' p F1 F with
         | some v=>match runN X G f d b (sF U p) rest ((yi S F).set p.dst v) H with
          | some (c',F',p',rest',S')=>some (vQ (rR (cond b' t' (X.bNot t')) c) c',F',p',rest',S++p :: S')
          | none=>none
         | none=>none
       | none=>none
     | _=>none
theorem nodst_spec {d:Nat} {o:AOper} (h:sy d o=true):o.dst≠some d:=by
 intro e;unfold sy at h;rw [e] at h;simp [Nat.beq_refl] at h
theorem isPick_spec {d:Nat} {o:AOp} (h:isPick d o=true):∃ x y,o=.pick (.t d) x y:=by
 unfold isPick at h
 split at h
 · rename_i d' x y
   exact ⟨x,y,by rw [Nat.eq_of_beq_eq_true h]⟩
 · cases h
theorem sameG_spec {d:Nat} {b:Bool} {g:Option (Nat × Bool)} (h:sameG d b g=true):g=some (d,b):=by
 unfold sameG at h
 split at h
 · simp only [Bool.and_eq_true,beq_iff_eq] at h
   rw [Nat.eq_of_beq_eq_true h.1,h.2]
 · cases h
theorem hasN_spec {U:List Nat} {d:Nat} (h:hasN U d=true):d∈U:=by
 unfold hasN at h
 obtain ⟨x,hx,hb⟩:=List.any_eq_true.1 h
 rw [← Nat.eq_of_beq_eq_true hb];exact hx
theorem quiet_bad {o:AOp} (h:yJ o=true):o≠.bad:=by rintro rfl;cases h
def SkL (d:Nat) (b:Bool):List Nat→List AOper→Prop
 | _,[]=>True
 | U,o :: S=>(o.guard=some (d,b)∨∃ u b',u∈U∧o.guard=some (u,b'))∧o.op≠.bad∧o.dst≠some d∧SkL d b (sF U o) S
theorem addD_mem {U:List Nat} {o:AOper} {u:Nat}:u∈sF U o↔u∈U∨o.dst=some u:=by
 unfold sF
 cases h:o.dst with
 | none=>simp
 | some x=>simp [eq_comm,or_comm]
theorem SkL.mono {d:Nat} {b:Bool}:∀ {S:List AOper} {U U':List Nat},(∀ u∈U,u∈U')→SkL d b U S→SkL d b U' S
 | [],_,_,_,_=>trivial
 | o :: S,U,U',hU,⟨h1,h2,h3,h4⟩=>by
  refine ⟨?_,h2,h3,h4.mono fun u hu=>?_⟩
  · rcases h1 with h | ⟨u,b',hu,hg⟩
    · exact .inl h
    · exact .inr ⟨u,b',hU u hu,hg⟩
  · rw [addD_mem] at hu ⊢
    exact hu.imp (hU u) id
theorem SkL.lift {d d':Nat} {b b':Bool}:∀ {S:List AOper} {U U':List Nat},d'∈U'→(∀ u∈U,u∈U')→(∀ o∈S,o.dst≠some d)→SkL d' b' U S→SkL d b U' S
 | [],_,_,_,_,_,_=>trivial
 | o :: S,U,U',hd,hU,hn,⟨h1,h2,h3,h4⟩=>by
  refine ⟨.inr ?_,h2,hn o List.mem_cons_self,SkL.lift (addD_mem.2 (.inl hd)) (fun u hu=>?_) (fun o' ho'=>hn o' (List.mem_cons_of_mem _ ho')) h4⟩
  · rcases h1 with h | ⟨u,b2,hu,hg⟩
    · exact ⟨d',b',hd,h⟩
    · exact ⟨u,b2,hU u hu,hg⟩
  · rw [addD_mem] at hu ⊢
    exact hu.imp (hU u) id
theorem SkL.app {d:Nat} {b:Bool}:∀ {S S':List AOper} {U U':List Nat},SkL d b U S→(∀ u∈U',u∈U∨∃ o∈S,o.dst=some u)→SkL d b U' S'→SkL d b U (S++S')
 | [],S',U,U',_,hU,h'=>h'.mono fun u hu=>by
  rcases hU u hu with h | ⟨o,ho,_⟩
  · exact h
  · cases ho
 | o :: S,S',U,U',⟨h1,h2,h3,h4⟩,hU,h'=>by
  refine ⟨h1,h2,h3,h4.app (U':=U') (fun u hu=>?_) h'⟩
  rcases hU u hu with h | ⟨o',ho',e⟩
  · exact .inl (addD_mem.2 (.inl h))
  · rcases List.mem_cons.1 ho' with rfl | ho'
    · exact .inl (addD_mem.2 (.inr e))
    · exact .inr ⟨o',ho',e⟩
theorem vq : ∀ (S:List AOper) (F:AFr) (t:Nat),(∀ o∈S,o.dst≠some t)→(yi S F).get t=F.get t
 | [],_,_,_=>rfl
 | o :: S,F,t,h=>by
  rw [yi,vq S _ t fun o' ho'=>h o' (List.mem_cons_of_mem _ ho'),AFr.get_set,if_neg (h o List.mem_cons_self)]
theorem sw : ∀ (S:List AOper) (F:AFr) (t:Nat),(yi S F).get t=.undef∨((yi S F).get t=F.get t∧∀ o∈S,o.dst≠some t)
 | [],_,_=>.inr ⟨rfl,fun o h=>by cases h⟩
 | o :: S,F,t=>by
  rw [yi]
  rcases sw S (F.set o.dst .undef) t with h | ⟨h,h2⟩
  · exact .inl h
  · rw [h,AFr.get_set]
    by_cases hd:o.dst=some t
    · rw [if_pos hd];exact .inl rfl
    · rw [if_neg hd]
      refine .inr ⟨rfl,fun o' ho'=>?_⟩
      rcases List.mem_cons.1 ho' with rfl | ho'
      · exact hd
      · exact h2 o' ho'
section
variable {E:Env} {n N:Nat} {H:zz} {Q:AFr→zz→Prop}
theorem skl_skip {d:Nat} {b t:Bool} (htb:(t == b)=false) {rest:List AOper}:∀ (S:List AOper) (U:List Nat) (F:AFr),SkL d b U S→(∀ u∈U,F.get u=.val undef)→F.get d=.val (.bool t)→d∉U→(∀ F',(∀ t,(yi S F).get t=F'.get t∨(yi S F).get t=.undef)→AOps E n N rest F' H Q)→AOps E n N (S++rest) F H Q
 | [],U,F,_,hU,hd,_,h=>h F fun t=>.inl rfl
 | o :: S,U,F,⟨h1,h2,h3,h4⟩,hU,hd,hdU,h=>by
  rw [List.cons_append]
  refine aops_skipv2 h2 fun hx=>?_
  have next:AOps E n N (S++rest) (F.set o.dst (.val undef)) H Q:=by
   refine skl_skip htb S (sF U o) _ h4 (fun u hu=>?_) (by rw [AFr.get_set,if_neg h3];exact hd) (fun hm=>?_) fun F' hF'=>h F' fun t=>?_
   · rw [AFr.get_set]
     by_cases e:o.dst=some u
     · rw [if_pos e]
     · rw [if_neg e]
       rcases addD_mem.1 hu with hu | hu
       · exact hU u hu
       · exact absurd hu e
   · rcases addD_mem.1 hm with hm | hm
     · exact hdU hm
     · exact h3 hm
   · rw [yi]
     rcases hF' t with e | e
     · rcases sw S (F.set o.dst .undef) t with e2 | ⟨e2,e3⟩
       · exact .inr e2
       · rw [vq S _ t e3] at e ⊢
         rw [AFr.get_set] at e ⊢
         by_cases hdt:o.dst=some t
         · rw [if_pos hdt];exact .inr rfl
         · rw [if_neg hdt] at e ⊢;exact .inl e
     · rcases sw S (F.set o.dst .undef) t with e2 | ⟨e2,e3⟩
       · exact .inr e2
       · rw [vq S _ t e3] at e ⊢
         rw [AFr.get_set] at e ⊢
         by_cases hdt:o.dst=some t
         · rw [if_pos hdt];exact .inr rfl
         · rw [if_neg hdt] at e ⊢;exact .inr e
  rcases h1 with hg | ⟨u,b',hu,hg⟩
  · exact aops_skipv (by rw [hg];simp only [zH,hd,htb]) next hx
  · exact aops_skipuv hg (hU u hu) next hx
theorem runN_sound {X:xg} (hXs:X=std):∀ (f d:Nat) (b:Bool) (U:List Nat) (ops:List AOper) (F:AFr) {c:Cd} {F1:AFr} {p:AOper} {rest S:List AOper},runN X E.G f d b U ops F H=some (c,F1,p,rest,S) →
 ops=S++p :: rest∧(∃ x y,p.op=.pick (.t d) x y)∧SkL d b U S∧(∀ t,(∀ o∈S,o.dst≠some t)→F1.get t=F.get t)∧(∀ o∈S,o.dst≠some d) ∧
 (c.ok→F.get d=.val (.bool b)→AOps E n N (p :: rest) F1 H Q→AOps E n N ops F H Q)
 | 0,_,_,_,_,_,_,_,_,_,_,h=>by simp [runN] at h
 | f+1,d,b,U,[],F,c,F1,p,rest,S,h=>by simp [runN] at h
 | f+1,d,b,U,o :: l,F,c,F1,p,rest,S,h=>by
  simp only [runN] at h
  cases hp:isPick d o.op with
  | true =>
   rw [hp] at h;dsimp only at h
   simp only [Option.some.injEq,Prod.mk.injEq] at h
   obtain ⟨rfl,rfl,rfl,rfl,rfl⟩:=h
   exact ⟨rfl,isPick_spec hp,trivial,fun t _=>rfl,fun o h=>(by cases h),fun _ _ h=>h⟩
  | false =>
   rw [hp] at h;dsimp only at h
   cases hg:o.guard with
   | none=>rw [hg] at h;simp at h
   | some g =>
    obtain ⟨d',b'⟩:=g
    rw [hg] at h
    dsimp only at h
    cases hs:(Nat.beq d' d && (b' == b)) with
    | true =>
     rw [hs] at h;dsimp only at h
     simp only [Bool.and_eq_true,beq_iff_eq] at hs
     have e1:=Nat.eq_of_beq_eq_true hs.1
     have e2:=hs.2
     subst e1 e2
     cases hq:(yJ o.op && sy d' o) with
     | false=>rw [hq] at h;cases h
     | true =>
      rw [hq] at h;dsimp only at h
      simp only [Bool.and_eq_true] at hq
      have hnd:=nodst_spec hq.2
      cases hop:opX X E.G o.op F H with
      | none=>rw [hop] at h;simp at h
      | some r =>
       obtain ⟨c0,v,H1⟩:=r
       rw [hop] at h
       dsimp only at h
       cases hr:runN X E.G f d' b' (sF U o) l (F.set o.dst v) H with
       | none=>rw [hr] at h;simp at h
       | some r =>
        obtain ⟨c',F',p',rest',S'⟩:=r
        rw [hr] at h
        simp only [Option.some.injEq,Prod.mk.injEq] at h
        obtain ⟨rfl,rfl,rfl,rfl,rfl⟩:=h
        obtain ⟨i1,i2,i3,i4,i5,i6⟩:=runN_sound hXs f d' b' (sF U o) l (F.set o.dst v) hr
        refine ⟨by rw [i1];rfl,i2,⟨.inl hg,quiet_bad hq.1,hnd,i3⟩,fun t ht=>?_,fun o' ho'=>?_,fun hc hd hA=>?_⟩
        · rw [i4 t fun o' ho'=>ht o' (List.mem_cons_of_mem _ ho'),AFr.get_set,if_neg (ht o List.mem_cons_self)]
        · rcases List.mem_cons.1 ho' with rfl | ho'
          · exact hnd
          · exact i5 o' ho'
        · have hc:=yL hc
          have hop:=vN hXs hop hc.1
          have hH:=vZ hq.1 hop
          subst hH
          exact wm (by rw [hg];simp only [zH,hd];cases b'<;>rfl) hop rfl (i6 hc.2 (by rw [AFr.get_set,if_neg hnd];exact hd) hA)
    | false =>
     rw [hs] at h;dsimp only at h
     cases hv:F.get d' with
     | val vv =>
      rw [hv] at h
      cases vv with
      | bool t' =>
       dsimp only at h
       cases hU:hasN U d' with
       | false=>rw [hU] at h;cases h
       | true =>
        rw [hU] at h;dsimp only at h
        have hUm:=hasN_spec hU
        cases hr:runN X E.G f d' b' [] (o :: l) F H with
        | none=>rw [hr] at h;simp at h
        | some r =>
         obtain ⟨c1,F2,p2,rest2,S2⟩:=r
         rw [hr] at h
         dsimp only at h
         cases hck:(sameG d b p2.guard && sy d p2 && S2.all (sy d) && yJ p2.op) with
         | false=>rw [hck] at h;cases h
         | true =>
          rw [hck] at h;dsimp only at h
          simp only [Bool.and_eq_true,List.all_eq_true] at hck
          obtain ⟨⟨⟨q1,q2⟩,q3⟩,q4⟩:=hck
          have q1:=sameG_spec q1
          have q2:=nodst_spec q2
          have q3:∀ o∈S2,o.dst≠some d:=fun o ho=>nodst_spec (q3 o ho)
          cases hch:v6 X E.G b' t' p2 F2 F with
          | none=>rw [hch] at h;simp at h
          | some v =>
           rw [hch] at h
           dsimp only at h
           cases hr2:runN X E.G f d b (sF U p2) rest2 ((yi S2 F).set p2.dst v) H with
           | none=>rw [hr2] at h;simp at h
           | some r =>
            obtain ⟨c3,F3,p3,rest3,S3⟩:=r
            rw [hr2] at h
            simp only [Option.some.injEq,Prod.mk.injEq] at h
            obtain ⟨rfl,rfl,rfl,rfl,rfl⟩:=h
            obtain ⟨i1,⟨x,y,hpop⟩,i3,i4,i5,i6⟩:=runN_sound hXs f d' b' [] (o :: l) F hr
            obtain ⟨j1,j2,j3,j4,j5,j6⟩:=runN_sound hXs f d b (sF U p2) rest2 _ hr2
            refine ⟨by rw [i1,j1];simp,j2,?_,fun t ht=>?_,fun o' ho'=>?_,fun hc hd hA=>?_⟩
            · exact (i3.lift (U':=U) hUm (fun u hu=>by cases hu) q3).app (U':=U) (fun u hu=>.inl hu) ⟨.inl q1,quiet_bad q4,q2,j3⟩
            · rw [j4 t fun o' ho'=>ht o' (by simp [ho']),AFr.get_set,if_neg (ht p2 (by simp)),vq S2 F t fun o' ho'=>ht o' (by simp [ho'])]
            · rcases List.mem_append.1 ho' with ho' | ho'
              · exact q3 o' ho'
              · rcases List.mem_cons.1 ho' with rfl | ho'
                · exact q2
                · exact j5 o' ho'
            · have hc:=yL hc
              have hgo:=j6 hc.2 (by rw [AFr.get_set,if_neg q2,vq S2 F d q3];exact hd) hA
              have weak:∀ F':AFr,(∀ t,(yi S2 F).get t=F'.get t∨(yi S2 F).get t=.undef)→AOps E n N rest2 (F'.set p2.dst v) H Q:=by
               intro F' hF'
               refine AOps.weak (fun t=>?_) hgo
               rw [AFr.get_set,AFr.get_set]
               split
               · exact .inl rfl
               · exact hF' t
              have hwant:∀ F':AFr,F'.get d=.val (.bool b)→zH F' p2.guard=some true:=by
               intro F' hF';rw [q1];simp only [zH,hF'];cases b<;>rfl
              cases htb:(t' == b') with
              | true =>
               have e:t'=b':=by simpa using htb
               subst e
               have hc1:c1.ok:=su hc.1 (by subst hXs;cases t'<;>rfl)
               refine i6 hc1 hv (wm (hwant _ (by rw [i4 d q3];exact hd)) (c:=true) (v:=v) (H1:=H) (chosen_run hXs (F1':=F2) htb hpop hch (fun t=>.inl rfl) (by rw [i4 d' i5];exact hv)) rfl (weak F2 fun t=>?_))
               rcases sw S2 F t with e | ⟨e,e2⟩
               · exact .inr e
               · exact .inl (by rw [e,i4 t e2])
              | false =>
               rw [i1]
               refine skl_skip htb S2 [] F i3 (fun u hu=>by cases hu) hv (by simp) fun F' hF'=>?_
               have hFd:∀ u,(∀ o∈S2,o.dst≠some u)→∀ w,F.get u=.val w→F'.get u=.val w:=fun u hu w hw=>by
                rcases hF' u with e | e
                · rw [← e,vq S2 F u hu];exact hw
                · rw [vq S2 F u hu,hw] at e;cases e
               exact wm (hwant _ (hFd d q3 _ hd)) (c:=true) (v:=v) (H1:=H) (chosen_skip hXs htb hpop hch (hFd d' i5 _ hv)) rfl (weak F' hF')
      | _=>simp at h
     | _=>rw [hv] at h;simp at h
end
section
variable {E:Env} {n N:Nat} {H:zz} {Q:zL→AFr→zz→Prop} {k:List KI} {F:AFr}
def litG (S:List AOper) (F:AFr) (g:Option (Nat × Bool)):Bool:=match g with
 | none=>true
 | some (d,b)=>match F.get d with
  | .val (.bool t)=>(t == b) && S.all (sy d)
  | _=>false
theorem litG_spec {S:List AOper} {F F':AFr} {g:Option (Nat × Bool)} (h:litG S F g=true) (hF:∀ d,(∀ o∈S,o.dst≠some d)→∀ w,F.get d=.val w→F'.get d=.val w):zH F' g=some true:=by
 unfold litG at h
 split at h
 · rfl
 · rename_i d b
   split at h
   · rename_i t ht
     simp only [Bool.and_eq_true,beq_iff_eq,List.all_eq_true] at h
     have:=hF d (fun o ho=>nodst_spec (h.2 o ho)) _ ht
     simp only [zH,this,h.1];cases b<;>rfl
   · cases h
def runT2 (X:xg) (G:Nat→AV) (l:List AOper) (F:AFr) (H:zz):Option (Cd × List AOper × AFr) :=
 match l with
 | []=>none
 | o :: l=>match o.guard with
  | none=>none
  | some (d,b)=>match F.get d with
   | .val (.bool t)=>match runN X G 1000 d b [] (o :: l) F H with
    | some (c,F1,p,rest,S)=>match litG S F p.guard with
     | false=>none
     | true=>match v6 X G b t p F1 F with
      | some v=>some (rR (cond b t (X.bNot t)) c,rest,(yi S F).set p.dst v)
      | none=>none
    | none=>none
   | _=>none
theorem ns_go {X:xg} (hXs:X=std) {l rest:List AOper} {c:Cd} {F':AFr} (he:runT2 X E.G l F H=some (c,rest,F')) (hc:c.ok) (h:zl E n N Q (.ops rest) k F' H):zl E n N Q (.ops l) k F H:=by
 unfold runT2 at he
 split at he
 · cases he
 · rename_i o l
   split at he
   · cases he
   · rename_i d b hg
     split at he
     · rename_i t hd
       split at he
       · rename_i c1 F1 p rest1 S hr
         cases hpg:litG S F p.guard with
         | false=>rw [hpg] at he;cases he
         | true =>
          rw [hpg] at he
          dsimp only at he
          split at he
          · rename_i v hch
            simp only [Option.some.injEq,Prod.mk.injEq] at he
            obtain ⟨rfl,rfl,rfl⟩:=he
            obtain ⟨i1,⟨x,y,hpop⟩,i3,i4,i5,i6⟩:=runN_sound (E:=E) (n:=n) (N:=N) (Q:=uo E n N Q k .normal) hXs 1000 d b [] (o :: l) F hr
            have weak:∀ F':AFr,(∀ t,(yi S F).get t=F'.get t∨(yi S F).get t=.undef)→AOps E n N rest1 (F'.set p.dst v) H (uo E n N Q k .normal):=by
             intro F' hF'
             refine AOps.weak (fun t=>?_) h
             rw [AFr.get_set,AFr.get_set]
             split
             · exact .inl rfl
             · exact hF' t
            cases htb:(t == b) with
            | true =>
             have e:t=b:=by simpa using htb
             subst e
             have hc1:c1.ok:=su hc (by subst hXs;cases t<;>rfl)
             refine i6 hc1 hd (wm (litG_spec hpg fun u hu w hw=>by rw [i4 u hu];exact hw) (c:=true) (v:=v) (H1:=H) (chosen_run hXs (F1':=F1) htb hpop hch (fun t=>.inl rfl) (by rw [i4 d i5];exact hd)) rfl (weak F1 fun t=>?_))
             rcases sw S F t with e | ⟨e,e2⟩
             · exact .inr e
             · exact .inl (by rw [e,i4 t e2])
            | false =>
             show AOps E n N (o :: l) F H _
             rw [i1]
             refine skl_skip htb S [] F i3 (fun u hu=>by cases hu) hd (by simp) fun F' hF'=>?_
             have hFu:∀ u,(∀ o∈S,o.dst≠some u)→∀ w,F.get u=.val w→F'.get u=.val w:=fun u hu w hw=>by
              rcases hF' u with e | e
              · rw [← e,vq S F u hu];exact hw
              · rw [vq S F u hu,hw] at e;cases e
             exact wm (litG_spec hpg hFu) (c:=true) (v:=v) (H1:=H) (chosen_skip hXs htb hpop hch (hFu d i5 _ hd)) rfl (weak F' hF')
          · cases he
       · cases he
     · cases he
end
end Go.Am
end
section
namespace Go.Am
inductive Wk2 (M:Nat):AV→AV→Prop
 | wk (v v':AV) (h:Wk M v v'):Wk2 M v v'
 | agg (cs cs':List AV) (hl:cs.length=cs'.length) (h:∀ (i:Nat) c c',cs[i]? = some c→cs'[i]? = some c'→Wk2 M c c'):Wk2 M (.agg cs) (.agg cs')
 | tup (cs cs':List AV) (hl:cs.length=cs'.length) (h:∀ (i:Nat) c c',cs[i]? = some c→cs'[i]? = some c'→Wk2 M c c'):Wk2 M (.tup cs) (.tup cs')
 | isl (k:Nat) (es es':List AV) (hl:es.length=es'.length) (hc:∀ (i:Nat) e e',es[i]? = some e→es'[i]? = some e'→e.cells.length=e'.cells.length)
  (h:∀ (i:Nat) e e' (j:Nat) c c',es[i]? = some e→es'[i]? = some e'→e.cells[j]? = some c→e'.cells[j]? = some c'→Wk2 M c c'):Wk2 M (.isl k es) (.isl k es')
theorem Wk2.rep {K:Ctx} {M:Nat} {w:World} {v v':AV} (h:Wk2 M v v'):∀ {y:Value},VRep K M w v y→VRep K M w v' y:=by
 induction h with
 | wk v v' h=>exact fun hy=>h.rep hy
 | agg cs cs' hl _ ih =>
  intro y h
  cases h with
  | agg _ ys hl2 h =>
   refine .agg cs' ys (hl ▸ hl2) fun i c' y hc hy=>?_
   obtain ⟨c,hc1⟩:∃ c,cs[i]? = some c:=⟨_,List.getElem?_eq_getElem (by have:=(List.getElem?_eq_some_iff.1 hc).1;omega)⟩
   exact ih i c c' hc1 hc (h i c y hc1 hy)
 | tup cs cs' hl _ ih =>
  intro y h
  cases h with
  | tup _ ys hl2 h =>
   refine .tup cs' ys (hl ▸ hl2) fun i c' y hc hy=>?_
   obtain ⟨c,hc1⟩:∃ c,cs[i]? = some c:=⟨_,List.getElem?_eq_getElem (by have:=(List.getElem?_eq_some_iff.1 hc).1;omega)⟩
   exact ih i c c' hc1 hc (h i c y hc1 hy)
 | isl k es es' hl hcl _ ih =>
  intro y h
  cases h with
  | islnil _ =>
   have:es'=[]:=List.length_eq_zero_iff.1 hl.symm
   subst this
   exact .islnil k
  | isl _ _ f a cap hle hI hk hc h =>
   have el:∀ (i:Nat) e',es'[i]? = some e'→∃ e,es[i]? = some e:=fun i e' he=>⟨_,List.getElem?_eq_getElem (by have:=(List.getElem?_eq_some_iff.1 he).1;omega)⟩
   have cl:∀ (i:Nat) e e' (j:Nat) c',es[i]? = some e→es'[i]? = some e'→e'.cells[j]? = some c'→∃ c,e.cells[j]? = some c:=fun i e e' j c' h1 h2 h3=>⟨_,List.getElem?_eq_getElem (by have:=(List.getElem?_eq_some_iff.1 h3).1;have:=hcl i e e' h1 h2;omega)⟩
   have:=VRep.isl (K:=K) (M:=M) (w:=w) k es' f a cap (hl ▸ hle) (fun hne=>hI fun h0=>hne (by subst h0;exact List.length_eq_zero_iff.1 hl.symm))
    (fun i e' he'=>by obtain ⟨e,he⟩:=el i e' he';rw [← hcl i e e' he he'];exact hk i e he)
    (fun i e' j c' he' hc'=>by
     obtain ⟨e,he⟩:=el i e' he'
     obtain ⟨c,hc1⟩:=cl i e e' j c' he he' hc'
     exact hc i e j c he hc1)
    (fun i e' j c' he' hc'=>by
     obtain ⟨e,he⟩:=el i e' he'
     obtain ⟨c,hc1⟩:=cl i e e' j c' he he' hc'
     exact ih i e e' j c c' he he' hc1 hc' (h i e j c he hc1))
   rw [← hl] at this
   exact this
def Wk2L (M:Nat):List AV→List AV→Prop
 | [],[]=>True
 | c :: cs,d :: ds=>Wk2 M c d∧Wk2L M cs ds
 | _,_=>False
theorem Wk2L.spec {M:Nat}:∀ {cs ds:List AV},Wk2L M cs ds→cs.length=ds.length∧∀ (i:Nat) c c',cs[i]? = some c→ds[i]? = some c'→Wk2 M c c'
 | [],[],_=>⟨rfl,fun i c c' h=>by simp at h⟩
 | c :: cs,d :: ds,h=>by
  obtain ⟨h1,h2⟩:=h.2.spec
  refine ⟨by simp [h1],fun i x y hx hy=>?_⟩
  cases i with
  | zero=>cases hx;cases hy;exact h.1
  | succ i=>exact h2 i x y (by simpa using hx) (by simpa using hy)
 | [],_ :: _,h=>h.elim
 | _ :: _,[],h=>h.elim
theorem Wk2.agg' {M:Nat} {cs ds:List AV} (h:Wk2L M cs ds):Wk2 M (.agg cs) (.agg ds):=.agg _ _ h.spec.1 h.spec.2
theorem Wk2.tup' {M:Nat} {cs ds:List AV} (h:Wk2L M cs ds):Wk2 M (.tup cs) (.tup ds):=.tup _ _ h.spec.1 h.spec.2
theorem Wk2.refl {M:Nat} (v:AV):Wk2 M v v:=.wk _ _ (.refl _)
theorem Wk2.nilI {M:Nat} (k:Nat):Wk2 M (.val (.slice none 0 0)) (.isl k []):=.wk _ _ (.nilI k)
theorem Wk2.of {M:Nat} {v v':AV} (h:v=v'):Wk2 M v v':=h ▸ .refl _
def Wk2E (M:Nat):List AV→List AV→Prop
 | [],[]=>True
 | c :: cs,d :: ds=>Wk2L M c.cells d.cells∧Wk2E M cs ds
 | _,_=>False
theorem Wk2E.spec {M:Nat}:∀ {cs ds:List AV},Wk2E M cs ds→cs.length=ds.length∧∀ (i:Nat) c c',cs[i]? = some c→ds[i]? = some c'→Wk2L M c.cells c'.cells
 | [],[],_=>⟨rfl,fun i c c' h=>by simp at h⟩
 | c :: cs,d :: ds,h=>by
  obtain ⟨h1,h2⟩:=h.2.spec
  refine ⟨by simp [h1],fun i x y hx hy=>?_⟩
  cases i with
  | zero=>cases hx;cases hy;exact h.1
  | succ i=>exact h2 i x y (by simpa using hx) (by simpa using hy)
 | [],_ :: _,h=>h.elim
 | _ :: _,[],h=>h.elim
theorem Wk2L.refl {M:Nat}:∀ cs:List AV,Wk2L M cs cs
 | []=>trivial
 | c :: cs=>⟨.refl c,.refl cs⟩
def SWkL (σ:Nat→Sub):List AV→List AV→Prop
 | [],[]=>True
 | c :: cs,d :: ds=>Wk 0 (c.sub σ) d∧SWkL σ cs ds
 | _,_=>False
theorem SWkL.wkL {σ:Nat→Sub}:∀ {cs ds:List AV},SWkL σ cs ds→WkL 0 (AV.subL σ cs) ds
 | [],[],_=>trivial
 | c :: cs,d :: ds,h=>⟨h.1,h.2.wkL⟩
 | [],_ :: _,h=>h.elim
 | _ :: _,[],h=>h.elim
def LendOk (H:zz) (args args':List AV):Prop:=∃ L,SubL H 0 [] (ofL L) 0 L∧SWkL (ofL L) args args'
theorem vT {E:Env} {n N:Nat} {Q:zL→AFr→zz→Prop} {k:List KI} {F:AFr} {H:zz} {o:AOper} {l:List AOper} {f:FuncId} {xs:List Opd} {args':List AV} {v:AV} (hg:zH F o.guard=some true) (ho:o.op=.call f xs)
 (hc:PCall E f args' v) (hfl:v.flat=true) (hl:LendOk H (xs.map (·.ev E.G F)) args') (h:zl E n N Q (.ops l) k (F.set o.dst v) H):zl E n N Q (.ops (o :: l)) k F H:=by
 obtain ⟨L,h1,h2⟩:=hl
 exact aops_lcall L hg ho rfl h1 rfl (hc.weak h2.wkL) hfl h
end Go.Am
end
section
namespace Go.Am
open Go
section
variable {E:Env} {n N:Nat} {F:AFr} {H:zz}
theorem on_condJ {Q:zL→AFr→zz→Prop} {k:List KI} {x:Opd} {a b:ACode} {t:Bool} (F0:AFr) (H0:zz) (hx:x.ev E.G F=.val (.bool t)) (h1:t=true→zl E n N (fun e F' H'=>e=.normal∧Ent E n N F' H' F0 H0) (.code a) [] F H) (h2:t=false→zl E n N (fun e F' H'=>e=.normal∧Ent E n N F' H' F0 H0) (.code b) [] F H)
 (tail:zl E n N Q (.out .normal) k F0 H0):zl E n N Q (.code (.cond x a b)) k F H:=by
 refine on_cond hx (fun ht=>?_) (fun ht=>?_)
 · refine AWP.entEnd (AWP.mono (h1 ht) ?_)
   rintro e F' H' ⟨rfl,he⟩
   exact ⟨F0,H0,he,tail⟩
 · refine AWP.entEnd (AWP.mono (h2 ht) ?_)
   rintro e F' H' ⟨rfl,he⟩
   exact ⟨F0,H0,he,tail⟩
theorem wp {Q:zL→AFr→zz→Prop} {k:List KI} {a:ACode} (F0:AFr) (H0:zz) (h1:zl E n N (fun e F' H'=>e=.normal∧Ent E n N F' H' F0 H0) (.code a) [] F H)
 (tail:zl E n N Q (.out .normal) k F0 H0):zl E n N Q (.code a) k F H:=by
 refine AWP.entEnd (AWP.mono h1 ?_)
 rintro e F' H' ⟨rfl,he⟩
 exact ⟨F0,H0,he,tail⟩
end
end Go.Am
end
section
namespace Go.Proofs
open Go.Shelf Go.RowKit Go.Lib
section
variable {P:Program} {ρ:Ren}
set_option maxHeartbeats 2000000 in
set_option maxRecDepth 100000 in
theorem Any.stringslite_Cut1 (L:Lays.n220 P ρ) (s:ByteArray) (b:UInt8) (w:World) (hs:s.size<4294967281) :
 Calls P (ρ.f 220) #[.string s,.string ⟨#[b]⟩] w fun e w'=>e=.returned (.tuple #[.string ⟨(Lib.cut s.data.toList [b]).1.toArray⟩,.string ⟨(Lib.cut s.data.toList [b]).2.1.toArray⟩,.bool (Lib.cut s.data.toList [b]).2.2])∧∃ n,w'=w.drewN n:=by
 have hone:Lib.index s.data.toList [b]=Lib.indexByte s.data.toList b:=Lib.index_one _ _
 rcases Lib.indexB_cases s ⟨#[b]⟩ with hix | ⟨i,hix,hroom⟩
 · obtain ⟨e1,e2,e3⟩:=Lib.cutB_miss s ⟨#[b]⟩ hix
   have hz:Lib.cut s.data.toList [b]=Lib.cut s.data.toList (ByteArray.mk #[b]).data.toList:=rfl
   rw [hz,e1,e2,e3]
   have t3:=L.t3;have t4:=L.t4;have t9:=L.t9
   have a3:∀ w,(isAgg (ρ.t 3)).run P w=.ok false w:=run_isAgg_plain L.t3 rfl;have a4:∀ w,(isAgg (ρ.t 4)).run P w=.ok false w:=run_isAgg_plain L.t4 rfl;have a9:∀ w,(isAgg (ρ.t 9)).run P w=.ok false w:=run_isAgg_plain L.t9 rfl
   have e219:∀ args w,(callFunc (ρ.f 219) args).run P w=.ok (.enter (ρ.f 219) args) w:=enters_of L.f219 (by kernel_rfl) rfl
   have mixed:=L.mixed;have z3:=L.z3;have v3:=L.v3;have z4:=L.z4;have v4:=L.v4;have z9:=L.z9;have v9:=L.v9
   go_enter L.f220,Body.n220_ntmps ρ
   go_wp2_with (go_at_fn (ρ.f 219);refine (Any.stringslite_Index_one { L with } _ _ _).mono ?_;rintro e w' ⟨rfl,rfl⟩;rw [show Lib.indexByte s.data.toList b=_ from hone.symm.trans hix])
   go_ret3
   exact ⟨rfl,0,rfl⟩
 · obtain ⟨e1,e2,e3⟩:=Lib.cutB_hit s ⟨#[b]⟩ i hix
   have hz:Lib.cut s.data.toList [b]=Lib.cut s.data.toList (ByteArray.mk #[b]).data.toList:=rfl
   rw [hz,e1,e2,e3]
   have hsz:(ByteArray.mk #[b]).size=1:=rfl
   have c1:(0:Int)≤↑i:=by omega
   have c2:(↑i:Int)≤↑s.size:=by omega
   have c3:(0:Int)≤↑i + ↑(ByteArray.mk #[b]).size:=by omega
   have c4:(↑i + ↑(ByteArray.mk #[b]).size:Int)≤↑s.size:=by omega
   have t3:=L.t3;have t4:=L.t4;have t9:=L.t9
   have a3:∀ w,(isAgg (ρ.t 3)).run P w=.ok false w:=run_isAgg_plain L.t3 rfl;have a4:∀ w,(isAgg (ρ.t 4)).run P w=.ok false w:=run_isAgg_plain L.t4 rfl;have a9:∀ w,(isAgg (ρ.t 9)).run P w=.ok false w:=run_isAgg_plain L.t9 rfl
   have e219:∀ args w,(callFunc (ρ.f 219) args).run P w=.ok (.enter (ρ.f 219) args) w:=enters_of L.f219 (by kernel_rfl) rfl
   have mixed:=L.mixed;have z3:=L.z3;have v3:=L.v3;have z4:=L.z4;have v4:=L.v4;have z9:=L.z9;have v9:=L.v9
   go_enter L.f220,Body.n220_ntmps ρ
   go_wp2_with (go_at_fn (ρ.f 219);refine (Any.stringslite_Index_one { L with } _ _ _).mono ?_;rintro e w' ⟨rfl,rfl⟩;rw [show Lib.indexByte s.data.toList b=_ from hone.symm.trans hix])
   go_region_o
   go_wp2
   go_ret3
   exact ⟨rfl,1,rfl⟩
end
end Go.Proofs
namespace Go.Am
open Go.Proofs Go.Shelf
theorem HRep.drewN {E:Env} {K:Ctx} {w:World} {H:zz} (h:HRep E K w H) (n:Nat):HRep E K (w.drewN n) H∧Ev H.length K H w K H (w.drewN n):=by
 have hm:Mv K H.length w K H.length (w.drewN n):=⟨fun _ _=>rfl,Nat.le_refl _,fun _ h=>h,fun _ _ _=>rfl,fun b c ty fz h=>⟨c,fz,h,rfl⟩⟩
 refine ⟨⟨fun b o hb=>hm.orep (h.obj b o hb) (fun _ _ _ _=>rfl),h.inj,h.disj,h.low,fun g=>?_,h.x.stay rfl (fun _ h=>h) (fun _ _=>rfl) (fun b c ty fz h=>⟨c,fz,h,rfl⟩) (Nat.le_refl _) (fun x hx=>.inl hx) (fun x j st hx=>⟨x,hx⟩)⟩,⟨fun _ _=>rfl,Nat.le_refl _,fun _ h=>h,fun _ h=>.inl h,fun _ h=>.inl h,fun _ _ _=>rfl,Nat.le_refl _,fun _ c _ fz h=>⟨c,fz,h,rfl⟩,fun _ r h=>⟨r,h⟩,rfl,rfl,rfl⟩⟩
 exact VRep.mono (K':=K) (fun b hb=>absurd hb (Nat.not_lt_zero _)) (Nat.le_refl _) (fun _ h=>h) hm.wc hm.cells (h.glob g)
end Go.Am
end
section
namespace Go.Am
open Go.Proofs
def closedM (es:List (AV × AV)):Bool:=es.all fun p=>p.1.closed && p.2.closed
theorem closedM_sub {es:List (AV × AV)} (h:closedM es=true) (σ:Nat→Sub):(es.map fun p=>(p.1.sub σ,p.2.sub σ))=es:=by
 rw [closedM,List.all_eq_true] at h
 conv=>rhs;rw [← List.map_id es]
 refine List.map_congr_left fun p hp=>?_
 have:=h p hp
 rw [Bool.and_eq_true] at this
 rw [xc _ _ _ (Nat.le_refl _) this.1,xc _ _ _ (Nat.le_refl _) this.2];rfl
theorem osrc_amap {H:zz} {M:Nat} {σ:Nat→Sub} {τ:Nat→Option Nat} {b' b:Nat} {es es':List (AV × AV)} (hH:H[b]? = some (.amap es)) (ht:τ b'=some b) (hs:σ b=.to b') (he:es=es') (hcl:closedM es'=true):sM H M σ τ b' (.amap es'):=by
 subst he
 exact .same b _ _ hH ht hs (congrArg AObj.amap (closedM_sub hcl σ))
end Go.Am
end
section
namespace Go.Am
open Go.ChangeShapes Go.WideShapes Go.ChangeAt Go.RowKit
mutual
def xP {H:Type}:DataW H→Nat
 | .lit (.string bytes)=>bytes.length+1
 | .lit _=>1
 | .nil=>1
 | .ptr d=>xP d+1
 | .slice elems spare=>dBulkAll elems+dBulkAll spare+1
 | .agg parts=>dBulkAll parts+1
 | .iface _ d=>xP d+1
 | .map entries=>dBulkEntries entries+1
 | .held _=>1
def dBulkAll {H:Type}:List (DataW H)→Nat
 | []=>0
 | d :: r=>xP d+dBulkAll r
def dBulkEntries {H:Type}:List (Lit × DataW H)→Nat
 | []=>0
 | x :: r=>dBulkEntry x+dBulkEntries r
def dBulkEntry {H:Type}:Lit × DataW H→Nat
 | (.string bytes,d)=>bytes.length+xP d+1
 | (_,d)=>xP d+1
end
mutual
def AV.bulk : AV→Nat
 | .isl _ es=>AV.bulkL es+1
 | .agg cs=>AV.bulkL cs+1
 | .val (.string s)=>s.size+1
 | _=>1
def AV.bulkL : List AV→Nat
 | []=>0
 | c :: cs=>AV.bulk c+AV.bulkL cs
end
theorem bulkL_append (a b:List AV):AV.bulkL (a++b)=AV.bulkL a+AV.bulkL b:=by
 induction a with
 | nil=>simp [AV.bulkL]
 | cons x a ih=>simp only [List.cons_append,AV.bulkL,ih];omega
theorem dBulk_pos {H:Type} (d:DataW H):1≤xP d:=by
 cases d with
 | lit l=>cases l<;>simp [xP]
 | _=>simp [xP]
theorem dBulkAll_append {H:Type} (a b:List (DataW H)):dBulkAll (a++b)=dBulkAll a+dBulkAll b:=by
 induction a with
 | nil=>simp [dBulkAll]
 | cons x a ih=>simp only [List.cons_append,dBulkAll,ih];omega
section
variable (P:Program)
def ue (t:TypeId):Bool :=
 match P.underlying t with
 | some d=>xI d
 | none=>false
def El (c:TypeId→List AV→Prop) (e:TypeId) (x:AV):Prop :=
 if ue P e then ∃ cs,x=.agg cs∧c e cs else x.cells=[x]∧c e [x]
def Cl : Nat→TypeId→List AV→Prop
 | 0,_,_=>False
 | n+1,t,cs=>match P.underlying t with
  | some .bool=>∃ b,cs=[.val (.bool b)]
  | some (.int k)=>∃ i,cs=[.val (.int k i)]∧(Lit.int k i).wf=true
  | some .string=>∃ s:ByteArray,cs=[.val (.string s)]∧s.size≤reachBytes
  | some (.slice e)=>∃ es,cs=[.isl (P.cellsOf e) es]∧es.length * P.bytesOf e≤reachBytes∧∀ x∈es,El P (Cl n) e x
  | some (.struct fs)=>∃ css:List (List AV),cs=css.flatten∧css.length=fs.size∧∀ (i:Nat) f c,fs[i]? = some f→css[i]? = some c→Cl n f.type c
  | some (.array m e)=>∃ css:List (List AV),cs=css.flatten∧css.length=m∧∀ c∈css,Cl n e c
  | _=>cs=[.undef]
end
theorem Cl.single {P:Program} {n:Nat} {t:TypeId} {cs:List AV} (h:Cl P n t cs) (ha:ue P t=false):∃ x:AV,cs=[x]∧x.cells=[x]:=by
 cases n with
 | zero=>exact h.elim
 | succ n =>
  unfold ue at ha
  unfold Cl at h
  cases hu:P.underlying t with
  | none=>rw [hu] at h;exact ⟨_,h,rfl⟩
  | some d =>
   rw [hu] at h ha
   cases d with
   | bool=>obtain ⟨b,rfl⟩:=h;exact ⟨_,rfl,rfl⟩
   | int k=>obtain ⟨b,rfl,_⟩:=h;exact ⟨_,rfl,rfl⟩
   | string=>obtain ⟨b,rfl,_⟩:=h;exact ⟨_,rfl,rfl⟩
   | slice e=>obtain ⟨b,rfl,_⟩:=h;exact ⟨_,rfl,rfl⟩
   | struct fs=>simp [xI] at ha
   | array m e=>simp [xI] at ha
   | _=>exact ⟨_,h,rfl⟩
structure Rd {H:Type} (P:Program) (C:Ctx) (w:World) (n:Nat) (t:TypeId) (vs:List Value) (d:DataW H) (cs:List AV):Prop where
 cl:Cl P n t cs
 len:cs.length=vs.length
 rep:∀ (j:Nat) c y,cs[j]? = some c→vs[j]? = some y→VRep C 0 w c y
 bulk:AV.bulkL cs+(if ue P t then 1 else 0)≤xP d
theorem cells?_get {w:World} {base n:Nat} {a:Addr} {vs:List Value} (h:w.cells? base a n=some vs):vs.length=n∧∀ j,j<n→w.cell? (a.add j)=vs[j]?:=by
 unfold World.cells? at h
 split at h
 · exact ⟨by simpa using mapM_some_length h,fun j hj=>mapM_some_get h j j (by simp [hj])⟩
 · cases h
theorem spot_none {w:World} {a:Addr} {v:Value} (h:w.cell? a=some v):a.spot=none∧a.block<w.heap.size:=by
 unfold World.cell? at h
 split at h
 · rename_i c _ _ hh
   refine ⟨?_,(Array.getElem?_eq_some_iff.1 hh).1⟩
   cases hs:a.spot with
   | none=>rfl
   | some s=>rw [hs] at h;simp at h
 · cases h
theorem add_none {a:Addr} (h:a.spot=none) (i j:Nat):(a.add i).add j=⟨a.block,a.off+(i+j),none⟩:=by
 obtain ⟨b,o,s⟩:=a
 simp only at h;subst h
 unfold Addr.add
 by_cases h1:i=0<;>by_cases h2:j=0<;>simp [h1,h2,Nat.add_assoc]
theorem piece_flatten {vs:List Value}:∀ (css:List (List AV)) (offs:List Nat) (R:AV→Value→Prop) (o:Nat),offs.length=css.length→(∀ (i:Nat) c f,css[i]? = some c→offs[i]? = some f→f=o+((css.take i).map List.length).sum) →
 (∀ (i:Nat) c f,css[i]? = some c→offs[i]? = some f→∀ (j:Nat) x y,c[j]? = some x→((vs.drop f).take c.length)[j]? = some y→R x y)→∀ (j:Nat) x y,css.flatten[j]? = some x→(vs.drop o)[j]? = some y→R x y
 | [],_,_,_,_,_,_,j,x,y,hx,_=>by simp at hx
 | c :: css,[],_,_,hl,_,_,_,_,_,_,_=>by simp at hl
 | c :: css,f :: offs,R,o,hl,ho,hR,j,x,y,hx,hy=>by
  have hf:f=o:=by simpa using ho 0 c f rfl rfl
  rw [List.flatten_cons] at hx
  by_cases hj:j<c.length
  · rw [List.getElem?_append_left hj] at hx
    refine hR 0 c f rfl rfl j x y hx ?_
    rw [hf,List.getElem?_take_of_lt hj]
    exact hy
  · rw [List.getElem?_append_right (by omega)] at hx
    refine piece_flatten css offs R (o+c.length) (by simpa using hl) (fun i c' f' hc hf'=>?_) (fun i c' f' hc hf'=>hR (i+1) c' f' (by simpa using hc) (by simpa using hf')) (j - c.length) x y hx ?_
    · have:=ho (i+1) c' f' (by simpa using hc) (by simpa using hf')
      rw [List.take_succ_cons,List.map_cons,List.sum_cons] at this;omega
    · rw [List.getElem?_drop] at hy ⊢
      rw [← hy];congr 1;omega
theorem sum_take_le (ks:List Nat) (i:Nat) (k:Nat) (h:ks[i]? = some k):(ks.take i).sum+k≤ks.sum:=by
 induction ks generalizing i with
 | nil=>simp at h
 | cons x ks ih =>
  cases i with
  | zero=>simp at h;subst h;simp
  | succ i=>have:=ih i (by simpa using h);simp only [List.take_succ_cons,List.sum_cons];omega
theorem pieces {H:Type} {P:Program} {C:Ctx} {w:World} {vs:List Value} {n:Nat} (ks:List Nat) (ts:List TypeId) (ds:List (DataW H)) (css:List (List AV)) (hl:css.length=ks.length) (hd:ds.length=ks.length) (ht:ts.length=ks.length) (hs:vs.length=ks.sum)
 (h:∀ (i:Nat) k t d c,ks[i]? = some k→ts[i]? = some t→ds[i]? = some d→css[i]? = some c→Rd P C w n t ((vs.drop (ks.take i).sum).take k) d c) :
 css.flatten.length=vs.length∧(∀ (j:Nat) c y,css.flatten[j]? = some c→vs[j]? = some y→VRep C 0 w c y)∧AV.bulkL css.flatten≤dBulkAll ds:=by
 have hlen:∀ (i:Nat) k c,ks[i]? = some k→css[i]? = some c→c.length=k:=by
  intro i k c hk hc
  obtain ⟨t,ht'⟩:∃ t,ts[i]? = some t:=⟨_,List.getElem?_eq_getElem (by have:=(List.getElem?_eq_some_iff.1 hk).1;omega)⟩
  obtain ⟨d,hd'⟩:∃ d,ds[i]? = some d:=⟨_,List.getElem?_eq_getElem (by have:=(List.getElem?_eq_some_iff.1 hk).1;omega)⟩
  have:=(h i k t d c hk ht' hd' hc).len
  have h2:=sum_take_le ks i k hk
  simp at this;omega
 have hmap:css.map List.length=ks:=by
  apply List.ext_getElem?
  intro i
  rw [List.getElem?_map]
  cases hc:css[i]? with
  | none=>simp at hc;simp;omega
  | some c =>
   obtain ⟨k,hk⟩:∃ k,ks[i]? = some k:=⟨_,List.getElem?_eq_getElem (by have:=(List.getElem?_eq_some_iff.1 hc).1;omega)⟩
   rw [hk];simp [hlen i k c hk hc]
 refine ⟨by rw [List.length_flatten,hmap,hs],fun j c y hc hy=>?_,?_⟩
 · refine piece_flatten css ((List.range css.length).map fun i=>(ks.take i).sum) (VRep C 0 w) 0 (by simp) (fun i c f hc hf=>?_) (fun i c f hc hf j x y hx hy=>?_) j c y hc (by simpa using hy)
   · have hi:i<css.length:=(List.getElem?_eq_some_iff.1 hc).1
     simp [hi] at hf;subst hf
     rw [← hmap,List.map_take];simp
   · have hi:i<css.length:=(List.getElem?_eq_some_iff.1 hc).1
     simp [hi] at hf;subst hf
     obtain ⟨k,hk⟩:∃ k,ks[i]? = some k:=⟨_,List.getElem?_eq_getElem (by omega)⟩
     obtain ⟨t,ht'⟩:∃ t,ts[i]? = some t:=⟨_,List.getElem?_eq_getElem (by omega)⟩
     obtain ⟨d,hd'⟩:∃ d,ds[i]? = some d:=⟨_,List.getElem?_eq_getElem (by omega)⟩
     rw [hlen i k c hk hc] at hy
     exact (h i k t d c hk ht' hd' hc).rep j x y hx hy
 · clear hmap hlen
   have hb:∀ (i:Nat) c d,css[i]? = some c→ds[i]? = some d→AV.bulkL c≤xP d:=by
    intro i c d hc hd'
    have hi:i<css.length:=(List.getElem?_eq_some_iff.1 hc).1
    obtain ⟨k,hk⟩:∃ k,ks[i]? = some k:=⟨_,List.getElem?_eq_getElem (by omega)⟩
    obtain ⟨t,ht'⟩:∃ t,ts[i]? = some t:=⟨_,List.getElem?_eq_getElem (by omega)⟩
    have:=(h i k t d c hk ht' hd' hc).bulk
    omega
   have hl':css.length=ds.length:=by omega
   clear h hl hd ht hs
   induction css generalizing ds with
   | nil=>simp [AV.bulkL]
   | cons c css ih =>
    cases ds with
    | nil=>simp at hl'
    | cons d ds =>
     rw [List.flatten_cons,bulkL_append]
     have:=hb 0 c d rfl rfl
     have:=ih ds (fun i c d hc hd'=>hb (i+1) c d (by simpa using hc) (by simpa using hd')) (by simpa using hl')
     simp only [dBulkAll];omega
theorem Rd.elem {H:Type} {P:Program} {C:Ctx} {w:World} {n:Nat} {t:TypeId} {vs:List Value} {d:DataW H} {cs:List AV} (h:Rd P C w n t vs d cs):∃ x:AV,x.cells=cs∧El P (Cl P n) t x∧x.bulk≤xP d:=by
 unfold El
 have hb:=h.bulk
 by_cases ha:ue P t=true
 · refine ⟨.agg cs,rfl,by rw [if_pos ha];exact ⟨cs,rfl,h.cl⟩,?_⟩
   rw [if_pos ha] at hb
   simpa [AV.bulk] using hb
 · obtain ⟨x,rfl,hx⟩:=h.cl.single (by simpa using ha)
   refine ⟨x,hx,by rw [if_neg ha];exact ⟨hx,h.cl⟩,?_⟩
   rw [if_neg ha] at hb
   simpa [AV.bulkL] using hb
theorem list_of {α:Type} [Inhabited α] {n:Nat} {p:Nat→α→Prop} (h:∀ i,i<n→∃ x,p i x):∃ l:List α,l.length=n∧∀ (i:Nat) x,l[i]? = some x→p i x:=by
 induction n with
 | zero=>exact ⟨[],rfl,fun i x hx=>by simp at hx⟩
 | succ n ih =>
  obtain ⟨l,hl,hp⟩:=ih fun i hi=>h i (by omega)
  obtain ⟨x,hx⟩:=h n (by omega)
  refine ⟨l++[x],by simp [hl],fun i y hy=>?_⟩
  by_cases hi:i<n
  · rw [List.getElem?_append_left (by omega)] at hy;exact hp i y hy
  · rw [List.getElem?_append_right (by omega)] at hy
    have:i=n:=by
     have:=(List.getElem?_eq_some_iff.1 hy).1
     simp at this;omega
    subst this
    simp [hl] at hy;subst hy;exact hx
theorem weightsAll_mem {H:Type} {P:Program} {e:TypeId} {d:DataW H} {m:Nat}:∀ {l:List (DataW H)},d∈l→m∈d.weights P e→m∈DataW.weightsAll P e l
 | x :: l,h,hm=>by
  simp only [DataW.weightsAll,List.mem_append]
  rcases List.mem_cons.1 h with rfl | h
  · exact .inl hm
  · exact .inr (weightsAll_mem h hm)
theorem weightsEach_mem {H:Type} {P:Program} {t:TypeId} {d:DataW H} {m:Nat}:∀ {ts:List TypeId} {l:List (DataW H)} {i:Nat},ts[i]? = some t→l[i]? = some d→m∈d.weights P t→m∈DataW.weightsEach P ts l
 | [],_,_,h,_,_=>by simp at h
 | _ :: _,[],_,_,h,_=>by simp at h
 | t' :: ts,x :: l,0,h1,h2,hm=>by
  simp at h1 h2;subst h1;subst h2
  simp only [DataW.weightsEach,List.mem_append];exact .inl hm
 | t' :: ts,x :: l,i+1,h1,h2,hm=>by
  simp only [DataW.weightsEach,List.mem_append];exact .inr (weightsEach_mem (by simpa using h1) (by simpa using h2) hm)
theorem read_cells {H:Type} {enc:TypeId × Value→H} {P:Program} {T:TypeId→Prop} (K:Kids P T) (hz:∀ t e,T t→P.underlying t=some (.slice e)→0<P.cellsOf e) {C:Ctx} {w:World} (hI:∀ b,b<w.heap.size→C.I b) {sp:Nat→Bool} {hd:Bool} :
 ∀ (n:Nat) (t:TypeId) (vs:List Value) (x:DataW H × List MemPlace),T t→DataW.trod enc P w 0 sp hd n t vs=some x→(∀ m∈x.1.weights P t,m≤reachBytes)→∃ cs,Rd P C w n t vs x.1 cs:=by
 intro n
 induction n with
 | zero=>intro t vs x _ h;simp [DataW.trod] at h
 | succ n ih =>
  intro t vs x hT h hwt
  have one:∀ (c:AV) (v:Value) (d:DataW H),Cl P (n+1) t [c]→VRep C 0 w c v→c.bulk≤xP d→ue P t=false→Rd P C w (n+1) t [v] d [c]:=by
   intro c v d h1 h2 h3 h4
   refine ⟨h1,rfl,fun j c' y hc hy=>?_,by rw [h4];simpa [AV.bulkL] using h3⟩
   cases j with
   | zero=>simp at hc hy;subst hc;subst hy;exact h2
   | succ j=>simp at hc
  cases hu:P.underlying t with
  | none=>exfalso;unfold DataW.trod at h;rw [hu] at h;simp at h
  | some d =>
   have other:Cl P (n+1) t [.undef]→xI d=false→(∃ v,vs=[v])→∃ cs,Rd P C w (n+1) t vs x.1 cs:=by
    rintro h1 h2 ⟨v,rfl⟩
    exact ⟨_,one .undef v x.1 h1 (.undef _) (dBulk_pos _) (by simp [ue,hu,h2])⟩
   cases d with
   | bool =>
    obtain ⟨b,rfl,rfl⟩:=DataW.trod_bool hu h
    exact ⟨_,one (.val (.bool b)) _ _ (by simp [Cl,hu]) (.val _ (by intro cs;simp)) (dBulk_pos _) (by simp [ue,hu,xI])⟩
   | int k =>
    obtain ⟨b,rfl,rfl,hw⟩:=DataW.trod_int hu h
    exact ⟨_,one (.val (.int k b)) _ _ (by simp [Cl,hu,hw]) (.val _ (by intro cs;simp)) (dBulk_pos _) (by simp [ue,hu,xI])⟩
   | string =>
    obtain ⟨b,rfl,rfl,hw⟩:=DataW.trod_string hu h
    exact ⟨_,one (.val (.string b)) _ _ (by simp only [Cl,hu];exact ⟨b,rfl,by have:=hwt b.data.toList.length (by simp [DataW.weights]);rwa [Array.length_toList] at this⟩) (.val _ (by intro cs;simp)) (by rw [AV.bulk];simp only [xP,Array.length_toList];exact Nat.le_refl _) (by simp [ue,hu,xI])⟩
   | slice e =>
    have hk:=hz t e hT hu
    rcases DataW.trod_slice hu h with ⟨rfl,rfl⟩ | ⟨a,len,cap,elems,rest,m,hm,rfl,rfl,hb,hl,hc,hlen,hel,_,_⟩
    · exact ⟨_,one (.isl (P.cellsOf e) []) _ _ (by simp [Cl,hu]) (.islnil _) (by simp [AV.bulk,AV.bulkL,xP]) (by simp [ue,hu,xI])⟩
    · obtain rfl:n=m:=by omega
      have hex:∀ i,i<len→∃ e':AV,∃ (vs':List Value) (y:DataW H × List MemPlace) (cs:List AV),w.cells? 0 (a.add (i * P.cellsOf e)) (P.cellsOf e)=some vs'∧elems[i]? = some y∧Rd P C w n e vs' y.1 cs∧e'.cells=cs∧El P (Cl P n) e e'∧e'.bulk≤xP y.1:=by
       intro i hi
       have h1:=hel i hi
       obtain ⟨y,hy⟩:∃ y,elems[i]? = some y:=⟨_,List.getElem?_eq_getElem (by omega)⟩
       rw [hy] at h1
       obtain ⟨vs',h2,h3⟩:=Option.bind_eq_some_iff.1 h1
       obtain ⟨cs,hr⟩:=ih e vs' y (K.slice hT hu) h3 (fun m hm=>hwt m (by
        simp only [DataW.weights,hu]
        exact List.mem_cons_of_mem _ (List.mem_append_left _ (weightsAll_mem (List.mem_map.2 ⟨y,List.mem_of_getElem? hy,rfl⟩) hm))))
       obtain ⟨e',g1,g2,g3⟩:=hr.elem
       exact ⟨e',vs',y,cs,h2,hy,hr,g1,g2,g3⟩
      obtain ⟨es,hes,hp⟩:=list_of hex
      refine ⟨_,one (.isl (P.cellsOf e) es) _ _ ?_ ?_ ?_ (by simp [ue,hu,xI])⟩
      · simp only [Cl,hu]
        refine ⟨es,rfl,?_,fun x hx=>?_⟩
        · have:=hwt (((elems.map (·.1)).length+(rest.map (·.1)).length) * P.bytesOf e) (by simp only [DataW.weights,hu];exact List.mem_cons_self)
          refine Nat.le_trans (Nat.mul_le_mul_right _ ?_) this
          simp only [List.length_map];omega
        obtain ⟨i,hi,rfl⟩:=List.getElem_of_mem hx
        obtain ⟨_,_,_,_,_,_,_,h5,_⟩:=hp i _ (List.getElem?_eq_getElem hi)
        exact h5
      · have cell:∀ (i:Nat) e' (j:Nat) c,es[i]? = some e'→e'.cells[j]? = some c→∃ v,w.cell? ((a.add (i * P.cellsOf e)).add j)=some v∧VRep C 0 w c v∧e'.cells.length=P.cellsOf e:=by
         intro i e' j c he hc
         obtain ⟨vs',y,cs,h1,h2,h3,h4,h5,h6⟩:=hp i e' he
         obtain ⟨g1,g2⟩:=cells?_get h1
         rw [h4] at hc ⊢
         have hj:j<cs.length:=(List.getElem?_eq_some_iff.1 hc).1
         have hjl:=h3.len
         obtain ⟨v,hv⟩:∃ v,vs'[j]? = some v:=⟨_,List.getElem?_eq_getElem (by omega)⟩
         refine ⟨v,?_,h3.rep j c v hc hv,by omega⟩
         rw [g2 j (by omega),hv]
        have hlenk:∀ (i:Nat) e',es[i]? = some e'→e'.cells.length=P.cellsOf e:=by
         intro i e' he
         obtain ⟨vs',y,cs,h1,h2,h3,h4,h5,h6⟩:=hp i e' he
         rw [h4,h3.len];exact (cells?_get h1).1
        have hne:es≠[]→C.I a.block∧a.spot=none:=by
         intro hne
         obtain ⟨e',he⟩:∃ e',es[0]? = some e':=⟨_,List.getElem?_eq_getElem (List.length_pos_iff.2 hne)⟩
         obtain ⟨c,hc⟩:∃ c,e'.cells[0]? = some c:=⟨_,List.getElem?_eq_getElem (by rw [hlenk 0 e' he];exact hk)⟩
         obtain ⟨v,hv,_⟩:=cell 0 e' 0 c he hc
         have e0:(a.add (0 * P.cellsOf e)).add 0=a:=by simp [Addr.add]
         rw [e0] at hv
         have:=spot_none hv
         exact ⟨hI _ this.2,this.1⟩
        rw [← hes]
        rw [← hes] at hl
        refine .isl (P.cellsOf e) es (fun i j=>(w.cell? ⟨a.block,a.off+(i * P.cellsOf e+j),none⟩).getD undef) a cap hl hne hlenk (fun i e' j c he hc=>?_) (fun i e' j c he hc=>?_)
        all_goals
         have hne':=(hne (by rintro rfl;simp at he)).2
         obtain ⟨v,hv,hr,_⟩:=cell i e' j c he hc
         rw [add_none hne'] at hv
         rw [hv]
        · rfl
        · exact hr
      · simp only [AV.bulk,xP]
        have:AV.bulkL es≤dBulkAll (elems.map (·.1)):=by
         have hb:∀ (i:Nat) e' y,es[i]? = some e'→elems[i]? = some y→e'.bulk≤xP y.1:=by
          intro i e' y he hy
          obtain ⟨vs',y',cs,h1,h2,h3,h4,h5,h6⟩:=hp i e' he
          rw [hy] at h2;cases h2;exact h6
         have hll:es.length=elems.length:=by omega
         clear hp hes hel hex hlen h one other hl hwt
         induction es generalizing elems with
         | nil=>simp [AV.bulkL]
         | cons e' es ih' =>
          cases elems with
          | nil=>simp at hll
          | cons y elems =>
           have:=hb 0 e' y rfl rfl
           have:=ih' elems (fun i e' y he hy=>hb (i+1) e' y (by simpa using he) (by simpa using hy)) (by simpa using hll)
           simp only [AV.bulkL,List.map_cons,dBulkAll];omega
        omega
   | struct fs =>
    obtain ⟨xs,m,hm,rfl,hcl,hxs,hf⟩:=DataW.trod_struct hu h
    obtain rfl:n=m:=by omega
    obtain ⟨hk1,hk2,hk3⟩:=K.struct hT hu
    have hex:∀ i,i<fs.size→∃ c:List AV,∃ (f:Field) (y:DataW H × List MemPlace),fs[i]? = some f∧xs[i]? = some y∧Rd P C w n f.type ((vs.drop f.offset).take (P.cellsOf f.type)) y.1 c:=by
     intro i hi
     obtain ⟨f,hfi⟩:∃ f,fs[i]? = some f:=⟨_,Array.getElem?_eq_getElem hi⟩
     obtain ⟨y,hy⟩:∃ y,xs[i]? = some y:=⟨_,List.getElem?_eq_getElem (by omega)⟩
     have h1:=hf i f hfi
     rw [hy] at h1
     obtain ⟨cs,hr⟩:=ih f.type _ y (hk1 f (by rw [List.mem_iff_getElem?];exact ⟨i,by simpa using hfi⟩)) h1 (fun m hm=>hwt m (by
      simp only [DataW.weights,hu]
      exact weightsEach_mem (i:=i) (by rw [List.getElem?_map];simp [hfi]) (by rw [List.getElem?_map,hy];rfl) hm))
     exact ⟨cs,f,y,hfi,hy,hr⟩
    obtain ⟨css,hcs,hp⟩:=list_of hex
    have hR:∀ (i:Nat) k t d c,(fs.toList.map fun f=>P.cellsOf f.type)[i]? = some k→(fs.toList.map (·.type))[i]? = some t→(xs.map (·.1))[i]? = some d→css[i]? = some c→Rd P C w n t ((vs.drop ((fs.toList.map fun f=>P.cellsOf f.type).take i).sum).take k) d c:=by
     intro i k t d c h1 h2 h3 h4
     obtain ⟨f,y,g1,g2,g3⟩:=hp i c h4
     have hfl:fs.toList[i]? = some f:=by simpa using g1
     rw [List.getElem?_map,hfl] at h1 h2
     rw [List.getElem?_map,g2] at h3
     simp at h1 h2 h3;subst h1;subst h2;subst h3
     have:=hk3 i f hfl
     rw [List.map_take] at this
     rw [← this];exact g3
    obtain ⟨a1,a2,a3⟩:=pieces (n:=n) (fs.toList.map fun f=>P.cellsOf f.type) (fs.toList.map (·.type)) (xs.map (·.1)) css (by simp [hcs]) (by simp [hxs]) (by simp) (by rw [hcl,hk2]) hR
    refine ⟨css.flatten,?_,a1,a2,?_⟩
    · simp only [Cl,hu]
      refine ⟨css,rfl,hcs,fun i f c hfi hc=>?_⟩
      obtain ⟨f',y,g1,g2,g3⟩:=hp i c hc
      rw [hfi] at g1;cases g1;exact g3.cl
    · simp only [ue,hu,xI,if_true,xP];omega
   | array m e =>
    obtain ⟨xs,m',hm,rfl,hcl,hxs,hf⟩:=DataW.trod_array hu h
    obtain rfl:n=m':=by omega
    obtain ⟨hk1,hk2⟩:=K.array hT hu
    have hex:∀ i,i<m→∃ c:List AV,∃ (y:DataW H × List MemPlace),xs[i]? = some y∧Rd P C w n e ((vs.drop (i * P.cellsOf e)).take (P.cellsOf e)) y.1 c:=by
     intro i hi
     obtain ⟨y,hy⟩:∃ y,xs[i]? = some y:=⟨_,List.getElem?_eq_getElem (by omega)⟩
     have h1:=hf i hi
     rw [hy] at h1
     obtain ⟨cs,hr⟩:=ih e _ y hk1 h1 (fun m hm=>hwt m (by
      simp only [DataW.weights,hu]
      exact weightsAll_mem (List.mem_map.2 ⟨y,List.mem_of_getElem? hy,rfl⟩) hm))
     exact ⟨cs,y,hy,hr⟩
    obtain ⟨css,hcs,hp⟩:=list_of hex
    have hsum:∀ i,i≤m→((List.replicate m (P.cellsOf e)).take i).sum=i * P.cellsOf e:=by
     intro i hi
     rw [List.take_replicate];simp [Nat.min_eq_left hi]
    have hR:∀ (i:Nat) k t d c,(List.replicate m (P.cellsOf e))[i]? = some k→(List.replicate m e)[i]? = some t→(xs.map (·.1))[i]? = some d→css[i]? = some c→Rd P C w n t ((vs.drop ((List.replicate m (P.cellsOf e)).take i).sum).take k) d c:=by
     intro i k t d c h1 h2 h3 h4
     obtain ⟨y,g2,g3⟩:=hp i c h4
     have hi:i<m:=by have:=(List.getElem?_eq_some_iff.1 h4).1;omega
     rw [List.getElem?_map,g2] at h3
     simp [hi] at h1 h2 h3;subst h1;subst h2;subst h3
     rw [hsum i (by omega)];exact g3
    obtain ⟨a1,a2,a3⟩:=pieces (n:=n) (List.replicate m (P.cellsOf e)) (List.replicate m e) (xs.map (·.1)) css (by simp [hcs]) (by simp [hxs]) (by simp) (by rw [hcl,hk2];simp) hR
    refine ⟨css.flatten,?_,a1,a2,?_⟩
    · simp only [Cl,hu]
      refine ⟨css,rfl,hcs,fun c hc=>?_⟩
      obtain ⟨i,hi,rfl⟩:=List.getElem_of_mem hc
      obtain ⟨y,g2,g3⟩:=hp i _ (List.getElem?_eq_getElem hi)
      exact g3.cl
    · simp only [ue,hu,xI,if_true,xP];omega
   | _=>exact other (by simp [Cl,hu]) rfl (by clear hwt ih one other hz hI K;unfold DataW.trod at h;rw [hu] at h;split at h<;>simp_all)
end Go.Am
end
section
namespace Go.Am
open Go.ChangeShapes Go.WideShapes Go.ChangeAt Go.RowKit
def ElAll (P:Program):List TypeId→List AV→Prop
 | [],[]=>True
 | t :: ts,x :: xs=>(∃ n,El P (Cl P n) t x)∧ElAll P ts xs
 | _,_=>False
theorem cells_of_ok {P:Program} {w:World} {b:Nat} {t:TypeId} {v:Value} (h:Value.okWide P w .any b t v):(ue P t=true∧∃ cs,v=.agg cs)∨(ue P t=false∧v.cells.toList=[v]∧∀ cs,v≠.agg cs):=by
 unfold Value.okWide at h
 unfold ue
 cases hu:P.underlying t with
 | none=>rw [hu] at h;simp [Cell.okWide,Cell.ok,hu] at h
 | some d =>
  rw [hu] at h
  cases d with
  | struct fs=>obtain ⟨cs,rfl,_⟩:=h;exact .inl ⟨rfl,cs,rfl⟩
  | array m e=>obtain ⟨cs,rfl,_⟩:=h;exact .inl ⟨rfl,cs,rfl⟩
  | _ =>
   right
   refine ⟨rfl,?_⟩
   cases v with
   | agg cs=>simp [Cell.okWide,Cell.ok,hu] at h
   | tuple cs=>simp [Cell.okWide,Cell.ok,hu] at h
   | _=>exact ⟨rfl,by intro cs;simp⟩
theorem Rd.arg {H:Type} {P:Program} {C:Ctx} {w:World} {n:Nat} {t:TypeId} {v:Value} {d:DataW H} {cs:List AV} {b:Nat} (h:Rd P C w n t v.cells.toList d cs) (hok:Value.okWide P w .any b t v) :
 ∃ x,VRep C 0 w x v∧El P (Cl P n) t x∧x.bulk≤xP d:=by
 have hb:=h.bulk
 unfold El
 rcases cells_of_ok hok with ⟨ha,vs,rfl⟩ | ⟨ha,hv,_⟩
 · rw [ha,if_pos rfl] at hb
   refine ⟨.agg cs,?_,by rw [ha,if_pos rfl];exact ⟨cs,rfl,h.cl⟩,by simpa [AV.bulk] using hb⟩
   have:=VRep.agg cs vs.toList (K:=C) (M:=0) (w:=w) (by simpa [Value.cells] using h.len) (fun i c y hc hy=>h.rep i c y hc (by simpa [Value.cells] using hy))
   simpa using this
 · obtain ⟨x,rfl,hx⟩:=h.cl.single ha
   rw [hv] at h
   rw [ha] at hb
   exact ⟨x,h.rep 0 x v rfl rfl,by rw [ha];exact ⟨hx,h.cl⟩,by simpa [AV.bulkL] using hb⟩
theorem read_args {H:Type} {enc:TypeId × Value→H} {P:Program} {T:TypeId→Prop} (K:Kids P T) (hz:∀ t e,T t→P.underlying t=some (.slice e)→0<P.cellsOf e) {C:Ctx} {w:World} (hI:∀ b,b<w.heap.size→C.I b) {b:Nat} :
 ∀ (ts:List TypeId) (vs:List Value) (ds:List (DataW H)) (ps:List MemPlace),(∀ t∈ts,T t)→DataW.TrodAll enc P w 0 (fun _=>true) true ts vs ds ps→(∀ (j:Nat) t v,ts[j]? = some t→vs[j]? = some v→Value.okWide P w .any b t v)→(∀ m∈DataW.weightsEach P ts ds,m≤reachBytes) →
  ∃ xs,VReps C 0 w xs vs∧ElAll P ts xs∧AV.bulkL xs≤dBulkAll ds
 | [],[],[],_,_,_,_,_=>⟨[],⟨rfl,fun i x y h=>by simp at h⟩,trivial,by simp [AV.bulkL]⟩
 | t :: ts,v :: vs,d :: ds,ps,hT,h,hok,hwt=>by
  obtain ⟨p,q,⟨n,hn⟩,h2,_⟩:=h
  obtain ⟨xs,g1,g2,g3⟩:=read_args K hz hI ts vs ds q (fun t ht=>hT t (List.mem_cons_of_mem _ ht)) h2 (fun j t v ht hv=>hok (j+1) t v (by simpa using ht) (by simpa using hv)) (fun m hm=>hwt m (by simp only [DataW.weightsEach,List.mem_append];exact .inr hm))
  obtain ⟨cs,hr⟩:=read_cells K hz hI n t _ _ (hT t List.mem_cons_self) hn (fun m hm=>hwt m (by simp only [DataW.weightsEach,List.mem_append];exact .inl hm))
  obtain ⟨x,k1,k2,k3⟩:=hr.arg (hok 0 t v rfl rfl)
  dsimp only at k3
  refine ⟨x :: xs,⟨by simp [g1.1],fun i x' y' hx hy=>?_⟩,⟨⟨n,k2⟩,g2⟩,by simp only [AV.bulkL,dBulkAll];omega⟩
  cases i with
  | zero=>simp at hx hy;subst hx;subst hy;exact k1
  | succ i=>exact g1.2 i x' y' (by simpa using hx) (by simpa using hy)
 | [],[],_ :: _,_,_,h,_,_=>by simp [DataW.TrodAll] at h
 | [],_ :: _,[],_,_,h,_,_=>by simp [DataW.TrodAll] at h
 | [],_ :: _,_ :: _,_,_,h,_,_=>by simp [DataW.TrodAll] at h
 | _ :: _,[],[],_,_,h,_,_=>by simp [DataW.TrodAll] at h
 | _ :: _,[],_ :: _,_,_,h,_,_=>by simp [DataW.TrodAll] at h
 | _ :: _,_ :: _,[],_,_,h,_,_=>by simp [DataW.TrodAll] at h
theorem TrodAll_carry {H:Type} {enc:TypeId × Value→H} {P:Program} {w w':World} {base:Nat} {sp:Nat→Bool} {hd:Bool}:∀ (ts:List TypeId) (vs:List Value) (ds:List (DataW H)) (ps:List MemPlace),
 DataW.TrodAll enc P w base sp hd ts vs ds ps→(∀ p∈ps,w.sameAt w' p)→DataW.TrodAll enc P w' base sp hd ts vs ds ps
 | [],[],[],_,h,_=>h
 | t :: ts,v :: vs,d :: ds,ps,h,hs=>by
  obtain ⟨p,q,⟨n,hn⟩,h2,rfl⟩:=h
  exact ⟨p,q,⟨n,DataW.trod_carry n _ _ _ hn fun x hx=>hs x (List.mem_append_left _ hx)⟩,TrodAll_carry ts vs ds q h2 fun x hx=>hs x (List.mem_append_right _ hx),rfl⟩
 | [],[],_ :: _,_,h,_=>by simp [DataW.TrodAll] at h
 | [],_ :: _,[],_,h,_=>by simp [DataW.TrodAll] at h
 | [],_ :: _,_ :: _,_,h,_=>by simp [DataW.TrodAll] at h
 | _ :: _,[],[],_,h,_=>by simp [DataW.TrodAll] at h
 | _ :: _,[],_ :: _,_,h,_=>by simp [DataW.TrodAll] at h
 | _ :: _,_ :: _,[],_,h,_=>by simp [DataW.TrodAll] at h
def Held (w w':World):Prop:=(∀ b,b<w.heap.size→w'.heap[b]? = w.heap[b]?)∧w'.os=w.os∧w'.output=w.output
theorem Held.same {w w':World} (h:Held w w') (p:MemPlace) (hp:p.block<w.heap.size):w.sameAt w' p:=by
 have:=h.1 _ hp
 cases p with
 | cell b o=>simp only [MemPlace.block] at this;simp only [World.sameAt,World.cell?];rw [this]
 | map b=>simp only [MemPlace.block] at this;simp only [World.sameAt];rw [this]
theorem Held.kept {w w':World} (h:Held w w') (may:MemPlace→Prop):w.keptBut w' may:=by
 refine ⟨h.2.1,h.2.2,fun i hi=>?_⟩
 rw [h.1 i hi]
 obtain ⟨o,ho⟩:∃ o,w.heap[i]? = some o:=⟨_,Array.getElem?_eq_getElem hi⟩
 rw [ho]
 cases o with
 | cells c t fr=>exact ⟨rfl,rfl,rfl,fun j _=>rfl⟩
 | map es clock=>exact .inr ⟨rfl,rfl⟩
 | _=>rfl
theorem Held.frozen {w w':World} (h:Held w w') (a:Addr) (ha:a.block<w.heap.size):w'.frozen? a=w.frozen? a:=by
 unfold World.frozen?;rw [h.1 _ ha]
theorem law_postG {H:Type} {enc:TypeId × Value→H} {E:Env} {f:FuncId} {fn:Func} {s:ChangeSpec} {fresh handsOn again:Bool} (K:Kids E.P (· < E.P.types.size)) (hz:∀ t e,t<E.P.types.size→E.P.underlying t=some (.slice e)→0<E.P.cellsOf e)
 (hvars:s.vars=[]) (hts:∀ t∈fn.params.toList,t<E.P.types.size) {tb:TypeId} (hres:fn.resultTypes = #[tb]) (hb:E.P.underlying tb=some .bool) (hspec:∀ ds:List (DataW H),ds.length=fn.params.size→s.fn H ds=⟨[.lit (.bool true)],ds,[]⟩)
 {W:World} (hglob:∀ g,VRep (Ctx.of (fun _=>none) fun b=>b<W.heap.size) 0 W (E.G g) (.pointer (some ⟨g,0,none⟩))) {base:Nat} {args:Array Value} {ds gs:List (DataW H)} {before:List MemPlace} (hval:∀ (j:Nat) t v,fn.params[j]? = some t→args[j]? = some v→Value.okWide E.P W .any base t v)
 (hW:DataW.Whole enc E.P fn.params.toList s.vars false W args.toList ds gs before)
 (hwt:(DataW.weightsEach E.P (fn.params.toList++s.plain.varTypes E.P) (ds++gs)).all (·≤reachBytes)=true)
 (hlaw:∀ xs,ElAll E.P fn.params.toList xs→AV.bulkL xs≤dBulkAll ds→PCall E f xs (.val (.bool true))) :
 Calls E.P f args W fun e W'=>∃ v,e=.returned v∧s.post enc E.P fn false fresh handsOn again W args v W':=by
 have hW':=hW
 obtain ⟨p,q,hA,hV,rfl,hfz,_⟩:=hW
 rw [hvars] at hV
 obtain ⟨rfl,rfl⟩:=trodVars_none hV
 simp only [List.append_nil] at hW' hfz
 have hlt:∀ x∈p,x.block<W.heap.size:=fun x hx=>by simpa using hW'.lt x hx
 obtain ⟨xs,h1,h2,h3⟩:=read_args (C:=Ctx.of (fun _=>none) fun b=>b<W.heap.size) (b:=base) K hz (fun b hb=>hb) fn.params.toList args.toList ds p hts hA (fun j t v ht hv=>hval j t v (by simpa using ht) (by simpa using hv)) (fun m hm=>by
  have:s.plain.varTypes E.P=[]:=by simp [ChangeSpec.plain,DataSpec.varTypes,hvars]
  rw [this] at hwt
  simp only [List.append_nil] at hwt
  exact of_decide_eq_true (List.all_eq_true.1 hwt m hm))
 have hh:HRep E (Ctx.of (fun _=>none) fun b=>b<W.heap.size) W []:=by
  refine ⟨fun b o h=>by simp at h,fun b b' o o' _ _ _ h=>by simp at h,fun b h=>?_,fun b hb=>hb,hglob,⟨fun _ _ h=>h,fun _ h=>h.elim,fun b j st h=>by simp at h⟩⟩
  rcases h with ⟨_,_,_,h,_⟩ | h
  · simp at h
  · exact h.elim
 have hl:=(hlaw xs h2 h3).2 _ W args.toList hh h1
 rw [show args.toList.toArray=args from rfl] at hl
 refine hl.mono fun e W'=>?_
 rintro ⟨v,y,H',K',rfl,⟨rfl,rfl⟩,hh',hv,ev⟩
 cases hv with
 | val _ _ =>
 have held:Held W W':=⟨fun b hb=>ev.frame b hb (by
  rintro (⟨_,_,_,h,_⟩ | h)
  · simp at h
  · exact h),ev.os,ev.out⟩
 have hdl:ds.length=fn.params.size:=by
  have:∀ (ts:List TypeId) (vs:List Value) (ds:List (DataW H)) (ps:List MemPlace),DataW.TrodAll enc E.P W 0 (fun _=>true) true ts vs ds ps→ds.length=ts.length:=by
   intro ts
   induction ts with
   | nil=>intro vs ds ps h;cases vs<;>cases ds<;>simp_all [DataW.TrodAll]
   | cons t ts ih =>
    intro vs ds ps h
    cases vs with
    | nil=>simp [DataW.TrodAll] at h
    | cons v vs =>
     cases ds with
     | nil=>simp [DataW.TrodAll] at h
     | cons d ds=>obtain ⟨_,_,_,h2,_⟩:=h;simp [ih _ _ _ h2]
  simpa using this _ _ _ _ hA
 have hfn:=hspec ds hdl
 have hA':∀ sp:Nat→Bool,(∀ x∈p,sp x.block=true)→DataW.TrodAll enc E.P W' 0 sp true fn.params.toList args.toList ds p:=fun sp hsp =>
  TrodAll_carry _ _ _ _ (DataW.TrodAll.respare K hz hts hA hsp) fun x hx=>held.same x (hlt x hx)
 have hR:∀ (b:Nat) (sp:Nat→Bool) (hd:Bool),DataW.TrodAll enc E.P W' b sp hd fn.resultTypes.toList ((Value.bool true).resultList fn.resultTypes.size) [.lit (.bool true)] []:=fun b sp hd=>by
  rw [hres];exact trodAll_mk1 (shut_bool hb true)
 have hVn:∀ sp:Nat→Bool,DataW.TrodVars enc E.P W' sp s.vars ([]:List (DataW H)) []:=fun sp=>by rw [hvars];rfl
 refine ⟨_,rfl,ds,[],p,[],p,[],hW',?_,?_,?_,held.kept _,fun _=>⟨?_,?_⟩⟩
 · rw [List.append_nil,hfn];exact hR _ _ _
 · rw [List.append_nil,hfn];exact hA' _ fun x hx=>by simpa using hlt x hx
 · rw [List.append_nil,hfn];exact hVn _
 · exact ok_one (t:=tb) hres rfl (okWide_bool_mk hb true)
 · refine ⟨_,[],p,⟨p,[],trodAll_append (hA' (fun _=>true) fun _ _=>rfl) (hR _ _ _),hVn _,by simp,fun b o hp=>?_,fun h=>by cases h⟩,fun x hx _=>hx⟩
   rw [held.frozen _ (hlt _ hp)]
   exact hfz b o hp
def ClF (P:Program) (m:Nat):List TypeId→List AV→Prop
 | [],cs=>cs=[]
 | t :: ts,cs=>∃ a b,cs=a++b∧Cl P m t a∧ClF P m ts b
section
variable {P:Program} {n:Nat} {t:TypeId} {cs:List AV}
theorem Cl.int {k:IntKind} (hu:P.underlying t=some (.int k)) (h:Cl P n t cs):∃ i,cs=[.val (.int k i)]∧(Lit.int k i).wf=true:=by
 cases n with
 | zero=>exact h.elim
 | succ n=>unfold Cl at h;rw [hu] at h;exact h
theorem Cl.bool (hu:P.underlying t=some .bool) (h:Cl P n t cs):∃ b,cs=[.val (.bool b)]:=by
 cases n with
 | zero=>exact h.elim
 | succ n=>unfold Cl at h;rw [hu] at h;exact h
theorem Cl.str (hu:P.underlying t=some .string) (h:Cl P n t cs):∃ s:ByteArray,cs=[.val (.string s)]∧s.size≤reachBytes:=by
 cases n with
 | zero=>exact h.elim
 | succ n=>unfold Cl at h;rw [hu] at h;exact h
theorem Cl.slice {e:TypeId} (hu:P.underlying t=some (.slice e)) (h:Cl P n t cs):∃ m es,cs=[.isl (P.cellsOf e) es]∧es.length * P.bytesOf e≤reachBytes∧∀ x∈es,El P (Cl P m) e x:=by
 cases n with
 | zero=>exact h.elim
 | succ n=>unfold Cl at h;rw [hu] at h;exact ⟨n,h⟩
theorem Cl.struct {fs:Array Field} (hu:P.underlying t=some (.struct fs)) (h:Cl P n t cs):∃ m,ClF P m (fs.toList.map (·.type)) cs:=by
 cases n with
 | zero=>exact h.elim
 | succ n =>
  unfold Cl at h;rw [hu] at h
  obtain ⟨css,rfl,hl,hc⟩:=h
  refine ⟨n,?_⟩
  obtain ⟨fs⟩:=fs
  dsimp only at hc ⊢
  have hc':∀ (i:Nat) f c,fs[i]? = some f→css[i]? = some c→Cl P n f.type c:=fun i f c hf hcc=>hc i f c (by simpa using hf) hcc
  have hl':css.length=fs.length:=by simpa using hl
  clear hc hl hu
  induction fs generalizing css with
  | nil=>cases css with
   | nil=>rfl
   | cons c css=>simp at hl'
  | cons f fs ih=>cases css with
   | nil=>simp at hl'
   | cons c css=>exact ⟨c,css.flatten,by simp,hc' 0 f c rfl rfl,ih css (fun i f c hf hcc=>hc' (i+1) f c (by simpa using hf) (by simpa using hcc)) (by simpa using hl')⟩
theorem Cl.array {m:Nat} {e:TypeId} (hu:P.underlying t=some (.array m e)) (h:Cl P n t cs):∃ m',ClF P m' (List.replicate m e) cs:=by
 cases n with
 | zero=>exact h.elim
 | succ n =>
  unfold Cl at h;rw [hu] at h
  obtain ⟨css,rfl,hl,hc⟩:=h
  refine ⟨n,?_⟩
  clear hu
  induction m generalizing css with
  | zero=>cases css with
   | nil=>rfl
   | cons c css=>simp at hl
  | succ m ih=>cases css with
   | nil=>simp at hl
   | cons c css=>exact ⟨c,css.flatten,by simp,hc c (by simp),ih css (by simpa using hl) (fun c hcc=>hc c (by simp [hcc]))⟩
theorem El.agg {c:TypeId→List AV→Prop} {x:AV} (ha:ue P t=true) (h:El P c t x):∃ cs,x=.agg cs∧c t cs:=by
 unfold El at h;rw [ha] at h;exact h
theorem El.one {c:TypeId→List AV→Prop} {x:AV} (ha:ue P t=false) (h:El P c t x):c t [x]:=by
 unfold El at h;rw [ha] at h;exact h.2
end
theorem list_enc {α:Type} {enc:α→AV} {ok:α→Prop}:∀ {es:List AV},(∀ x∈es,∃ c,x=enc c∧ok c)→∃ l:List α,es=zy enc l∧∀ c∈l,ok c
 | [],_=>⟨[],by simp [zu],fun c h=>by simp at h⟩
 | x :: es,h=>by
  obtain ⟨c,rfl,hc⟩:=h x List.mem_cons_self
  obtain ⟨l,rfl,hl⟩:=list_enc fun x hx=>h x (List.mem_cons_of_mem _ hx)
  exact ⟨c :: l,by simp [zu],fun c' h'=>by
   rcases List.mem_cons.1 h' with rfl | h'
   · exact hc
   · exact hl c' h'⟩
end Go.Am
end
section
namespace Go.Am
mutual
def rz {H:Type}:DataW H→List Value
 | .lit (.bool b)=>[.bool b]
 | .lit (.int k n)=>[.int k n]
 | .lit (.string s)=>[.string ⟨s.toArray⟩]
 | .agg ds=>flatDs ds
 | _=>[]
def flatDs {H:Type}:List (DataW H)→List Value
 | []=>[]
 | d :: r=>rz d++flatDs r
end
def rf (P:Program):Nat→List Field→Option Nat
 | off,[]=>some off
 | off,f :: fs=>if Nat.beq f.offset off then rf P (off+P.cellsOf f.type) fs else none
def tT (P:Program):Nat→TypeId→Bool
 | 0,_=>false
 | n+1,t=>match P.underlying t with
  | some .bool=>true
  | some (.int _)=>true
  | some .string=>true
  | some (.struct fs)=>fs.toList.all (fun f=>tT P n f.type) && (match rf P 0 fs.toList with | some k=>Nat.beq k (P.cellsOf t) | none=>false)
  | some (.array m e)=>tT P n e && Nat.beq (m * P.cellsOf e) (P.cellsOf t)
  | _=>false
theorem mapM_cons_some {α β:Type} {f:α→Option β} {a:α} {l:List α} {r:List β} (h:(a :: l).mapM f=some r):∃ b r',f a=some b∧l.mapM f=some r'∧r=b :: r':=by
 rw [List.mapM_cons] at h
 simp only [Option.bind_eq_bind,Option.pure_def] at h
 obtain ⟨b,hb,h⟩:=Option.bind_eq_some_iff.1 h
 obtain ⟨r',hr,h⟩:=Option.bind_eq_some_iff.1 h
 exact ⟨b,r',hb,hr,by simpa using h.symm⟩
theorem flat_fields {H:Type} {P:Program} {n:Nat} {cs:List Value} {g:TypeId→List Value→Option (DataW H × List MemPlace)} (hg:∀ t c d p,tT P n t=true→g t c=some (d,p)→c=rz d):∀ (fs:List Field) (off tot:Nat) (xs:List (DataW H × List MemPlace)),(∀ f∈fs,tT P n f.type=true)→rf P off fs=some tot→(fs.mapM fun f=>g f.type ((cs.drop f.offset).take (P.cellsOf f.type)))=some xs→cs.drop off=flatDs (xs.map (·.1))++cs.drop tot
 | [],off,tot,xs,_,ho,hm=>by
  simp [rf] at ho;subst ho
  have:xs=[]:=by simpa using hm.symm
  subst this;simp [flatDs]
 | f :: fs,off,tot,xs,hf,ho,hm=>by
  simp only [rf] at ho
  split at ho
  · rename_i hb
    have e:=Nat.eq_of_beq_eq_true hb
    obtain ⟨b,r,h1,h2,rfl⟩:=mapM_cons_some hm
    have h3:=hg _ _ _ _ (hf f List.mem_cons_self) h1
    have h4:=flat_fields hg fs _ _ r (fun f hf'=>hf f (List.mem_cons_of_mem _ hf')) ho h2
    rw [e] at h3
    simp only [List.map_cons,flatDs]
    rw [← h3,List.append_assoc,← h4,← List.drop_drop,List.take_append_drop]
  · cases ho
theorem flat_elems {H:Type} {cs:List Value} {k:Nat} {g:List Value→Option (DataW H × List MemPlace)} (hg:∀ c d p,g c=some (d,p)→c=rz d):∀ (m s:Nat) (xs:List (DataW H × List MemPlace)),((List.range' s m).mapM fun i=>g ((cs.drop (i * k)).take k))=some xs→cs.drop (s * k)=flatDs (xs.map (·.1))++cs.drop ((s+m) * k)
 | 0,s,xs,hm=>by
  have:xs=[]:=by simpa using hm.symm
  subst this;simp [flatDs]
 | m+1,s,xs,hm=>by
  rw [List.range'_succ] at hm
  obtain ⟨b,r,h1,h2,rfl⟩:=mapM_cons_some hm
  have h3:=hg _ _ _ h1
  have h4:=flat_elems hg m (s+1) r h2
  simp only [List.map_cons,flatDs]
  rw [← h3,List.append_assoc,show s+(m+1)=s+1+m by omega,← h4,Nat.add_mul,Nat.one_mul,← List.drop_drop,List.take_append_drop]
theorem trod_flat {H:Type} {enc:TypeId × Value→H} {P:Program} {w:World} {base:Nat} {sp:Nat→Bool} {held:Bool}:∀ (fuel n:Nat) (t:TypeId) (cs:List Value) (d:DataW H) (p:List MemPlace),tT P n t=true→DataW.trod enc P w base sp held fuel t cs=some (d,p)→cs=rz d
 | 0,_,_,_,_,_,_,h=>by simp [DataW.trod] at h
 | fuel+1,0,_,_,_,_,hf,_=>by cases hf
 | fuel+1,n+1,t,cs,d,p,hf,h=>by
  unfold tT at hf
  split at hf
  · rename_i hu
    obtain ⟨b,rfl,e⟩:=DataW.trod_bool hu h
    cases e;rfl
  · rename_i k hu
    obtain ⟨z,rfl,e,_⟩:=DataW.trod_int hu h
    cases e;rfl
  · rename_i hu
    obtain ⟨z,rfl,e,_⟩:=DataW.trod_string hu h
    cases e;rfl
  · rename_i fs hu
    simp only [Bool.and_eq_true,List.all_eq_true] at hf
    obtain ⟨h1,h2⟩:=hf
    split at h2
    · rename_i k hk
      have h2:=Nat.eq_of_beq_eq_true h2
      simp only [DataW.trod,hu] at h
      split at h
      · rename_i hl
        obtain ⟨xs,hm,hx⟩:=Option.map_eq_some_iff.1 h
        have:=flat_fields (n:=n) (fun t c d p a b=>trod_flat fuel n t c d p a b) fs.toList 0 k xs h1 hk hm
        rw [List.drop_zero,h2,← hl,List.drop_length,List.append_nil] at this
        cases hx
        exact this
      · cases h
    · cases h2
  · rename_i m e hu
    simp only [Bool.and_eq_true] at hf
    have h2:=Nat.eq_of_beq_eq_true hf.2
    simp only [DataW.trod,hu] at h
    split at h
    · rename_i hl
      obtain ⟨xs,hm,hx⟩:=Option.map_eq_some_iff.1 h
      rw [List.range_eq_range'] at hm
      have:=flat_elems (k:=P.cellsOf e) (fun c d p b=>trod_flat fuel n e c d p hf.1 b) m 0 xs hm
      rw [Nat.zero_mul,List.drop_zero,Nat.zero_add,h2,← hl,List.drop_length,List.append_nil] at this
      cases hx
      exact this
    · cases h
  · cases hf
theorem laid_cells {P:Program} {W:World}:∀ {laid:List (String × DataW Unit)} {ps:List MemPlace},DataW.LaidVars P W laid ps→∀ {name:String} {d:DataW Unit},(name,d)∈laid→∀ {g n:Nat} {t:TypeId},P.globalNamed name=some g→(P.globals[g]?).map (·.type)=some t→tT P n t=true→W.var? P name=some (rz d).toArray
 | [],_,_,_,_,hm,_,_,_,_,_,_=>by cases hm
 | (n0,d0) :: r,ps,h,name,d,hm,g,n,t,hg,ht,hf=>by
  obtain ⟨g',t',cs,fuel,p,q,hg',ht',hvar,hd,hr,_⟩:=h
  rcases List.mem_cons.1 hm with e | hm
  · cases e
    obtain rfl:=Option.some.inj (hg.symm.trans hg')
    obtain rfl:=Option.some.inj (ht.symm.trans ht')
    rw [hvar,← trod_flat fuel n t _ _ _ hf hd]
  · exact laid_cells hr hm hg ht hf
theorem glob_rep {P:Program} {W:World} {name:String} {g:Nat} {vs:List Value} {cs:List AV} (hv:W.var? P name=some vs.toArray) (hg:P.globalNamed name=some g) (hcs:cs=vs.map .val) (hna:∀ v∈vs,∀ c,v≠.agg c) :
 VRep (Ctx.of (fun _=>none) fun b=>b<W.heap.size) 0 W (.iptr cs) (.pointer (some ⟨g,0,none⟩)):=by
 unfold World.var? at hv
 rw [hg,Option.bind_some] at hv
 split at hv
 · rename_i c ty fz hh
   obtain rfl:=Option.some.inj hv
   subst hcs
   refine .iptr _ (fun j=>vs.getD j undef) g 0 (Array.getElem?_eq_some_iff.1 hh).1 (fun j c hj=>?_) (fun j c hj=>?_)
   · rw [List.getElem?_map] at hj
     obtain ⟨v,hv,rfl⟩:=Option.map_eq_some_iff.1 hj
     simp [World.cell?,hh,List.getD_eq_getElem?_getD,hv]
   · rw [List.getElem?_map] at hj
     obtain ⟨v,hv,rfl⟩:=Option.map_eq_some_iff.1 hj
     rw [List.getD_eq_getElem?_getD,hv]
     exact .val _ (hna v (List.mem_of_getElem? hv))
 · cases hv
end Go.Am
end
section
namespace Go.Am
section
variable {E:Env} {n N:Nat} {Q:zL→AFr→zz→Prop}
theorem goA (g:Nat) {X:xg} {cur:Cur} {k:List KI} {F:AFr} {H:zz} {c:Cd} {cur':Cur} {k':List KI} {F':AFr} {H':zz} (h:zl E n N Q cur' k' F' H') (hXs:X=std:=by exact hX) (hm:E.P.follows .mixedOrders=true:=by exact rfl)
 (he:exec X E.G 1000 g cur k F H=(c,cur',k',F',H'):=by conv=>lhs;cbv) (hc:c.ok:=by first | exact trivial | (simp only [Cd.ok,ee];and_intros<;>first | omega | rfl | (simp<;>omega))):zl E n N Q cur k F H :=
 go hm hXs g he hc h
theorem goB {X:xg} (hXs:X=std) (g:Nat) {cur:Cur} {k:List KI} {F:AFr} {H:zz} {c:Cd} {cur':Cur} {k':List KI} {F':AFr} {H':zz} (he:exec X E.G 1000 g cur k F H=(c,cur',k',F',H')) (h:zl E n N Q cur' k' F' H') (hm:E.P.follows .mixedOrders=true:=by exact rfl)
 (hc:c.ok:=by first | exact trivial | (simp only [Cd.ok,ee];and_intros<;>first | omega | rfl | (simp<;>omega))):zl E n N Q cur k F H :=
 go hm hXs g he hc h
end
theorem tgA {E:Env} {X:xg} {l:List AOper} {F:AFr} {H:zz} {K:List Kd→List zz→AFr→zz→Prop} {c:Cd} {rest:List AOper} {F':AFr} {H':zz} {ks:List Kd} {Hs:List zz}
 (h:TR E rest F' H' (fun k2 H2=>K (ks++k2) (Hs++H2))) (hXs:X=std:=by exact hX) (he:sg X E.G 1000 l F H=(c,rest,F',H',ks,Hs):=by conv=>lhs;cbv) (hc:c.ok:=by first | exact trivial | (simp only [Cd.ok,ee];and_intros<;>first | omega | rfl | (simp<;>omega))):TR E l F H K:=ru hXs he hc h
section
variable {E:Env} {n N:Nat} {Q:zL→AFr→zz→Prop} {k:List KI} {F:AFr} {H:zz}
theorem nsB {X:xg} (hXs:X=std) {l rest:List AOper} {c:Cd} {F':AFr} (he:runT2 X E.G l F H=some (c,rest,F')) (h:zl E n N Q (.ops rest) k F' H) (hc:c.ok:=by first | exact trivial | (simp only [Cd.ok,ee];and_intros<;>first | omega | rfl | (simp<;>omega))):zl E n N Q (.ops l) k F H:=ns_go hXs he hc h
end
theorem zo {p:Prop} (h:∀ (iLt:Int→Int→Bool) (iLe:Int→Int→Bool) (iEq:Int→Int→Bool) (iNe:Int→Int→Bool) (iAdd:IntKind→Int→Int→Int) (iSub:IntKind→Int→Int→Int) (iMul:IntKind→Int→Int→Int) (iQuo:IntKind→Int→Int→Int) (iRem:Int→Int→Int) (iShr:IntKind→Int→Int→Int) (iNeg:IntKind→Int→Int) (iCvt:IntKind→Int→Int) (iMax:Int→Int→Int) (iMin:Int→Int→Int) (bNot:Bool→Bool) (bEq:Bool→Bool→Bool) (bNe:Bool→Bool→Bool) (bAnd:Bool→Bool→Bool) (bOr:Bool→Bool→Bool) (sEq:ByteArray→ByteArray→Bool) (sNe:ByteArray→ByteArray→Bool) (sLen:ByteArray→Int) (sCat:ByteArray→ByteArray→ByteArray) (sCut:ByteArray→Int→Int→ByteArray) (sAt:ByteArray→Int→Int) (lenA:List AV→Int) (lenN:List AV→Nat) (iOf:Nat→Int) (natOf:Int→Nat) (atA:List AV→Int→AV) (atN:List AV→Nat→AV) (cutA:List AV→Int→Int→List AV) (partA:List AV→Nat→Nat→List AV) (dropA:List AV→Nat→List AV) (catA:List AV→List AV→List AV) (setA:List AV→Nat→AV→List AV) (repA:Int→AV→List AV) (putA:List AV→Nat→Nat→List AV→List AV) (idxN:Nat→Int→Nat) (addN:Nat→Nat→Nat) (subN:Nat→Int→Nat) (minN:Nat→Nat→Nat) (lenCut:Int→Int→Nat) (rowA:List AV→Int→Nat→List AV) (mOk:Bool→List (AV × AV)→AV→Bool) (mHas:Bool→List (AV × AV)→AV→Bool) (mGet:Bool→List (AV × AV)→AV→AV→AV) (mPut:Bool→List (AV × AV)→AV→AV→List (AV × AV)) (bytA:ByteArray→List AV) (encR:Int→ByteArray),∀ (hX:(⟨iLt,iLe,iEq,iNe,iAdd,iSub,iMul,iQuo,iRem,iShr,iNeg,iCvt,iMax,iMin,bNot,bEq,bNe,bAnd,bOr,sEq,sNe,sLen,sCat,sCut,sAt,lenA,lenN,iOf,natOf,atA,atN,cutA,partA,dropA,catA,setA,repA,putA,idxN,addN,subN,minN,lenCut,rowA,mOk,mHas,mGet,mPut,bytA,encR⟩:xg)=std) (e_iLt:iLt=Wd.iLt) (e_iLe:iLe=Wd.iLe) (e_iEq:iEq=Wd.iEq) (e_iNe:iNe=Wd.iNe) (e_iAdd:iAdd=Wd.iAdd) (e_iSub:iSub=Wd.iSub) (e_iMul:iMul=Wd.iMul) (e_iQuo:iQuo=Wd.iQuo) (e_iRem:iRem=Wd.iRem) (e_iShr:iShr=Wd.iShr) (e_iNeg:iNeg=Wd.iNeg) (e_iCvt:iCvt=Wd.iCvt) (e_iMax:iMax=Wd.iMax) (e_iMin:iMin=Wd.iMin) (e_bNot:bNot=Wd.bNot) (e_bEq:bEq=Wd.bEq) (e_bNe:bNe=Wd.bNe) (e_bAnd:bAnd=Wd.bAnd) (e_bOr:bOr=Wd.bOr) (e_sEq:sEq=Wd.sEq) (e_sNe:sNe=Wd.sNe) (e_sLen:sLen=Wd.sLen) (e_sCat:sCat=Wd.sCat) (e_sCut:sCut=Wd.sCut) (e_sAt:sAt=Wd.sAt) (e_lenA:lenA=Wd.lenA) (e_lenN:lenN=Wd.lenN) (e_iOf:iOf=Wd.iOf) (e_natOf:natOf=Wd.natOf) (e_atA:atA=Wd.atA) (e_atN:atN=Wd.atN) (e_cutA:cutA=Wd.cutA) (e_partA:partA=Wd.partA) (e_dropA:dropA=Wd.dropA) (e_catA:catA=Wd.catA) (e_setA:setA=Wd.setA) (e_repA:repA=Wd.repA) (e_putA:putA=Wd.putA) (e_idxN:idxN=Wd.idxN) (e_addN:addN=Wd.addN) (e_subN:subN=Wd.subN) (e_minN:minN=Wd.minN) (e_lenCut:lenCut=Wd.lenCut) (e_rowA:rowA=Wd.rowA) (e_mOk:mOk=Wd.mOk) (e_mHas:mHas=Wd.mHas) (e_mGet:mGet=Wd.mGet) (e_mPut:mPut=Wd.mPut) (e_bytA:bytA=Wd.bytA) (e_encR:encR=Wd.encR) (ee:((∀ a b,iLt a b=(decide (a<b)))∧(∀ a b,iLe a b=(decide (a≤b)))∧(∀ a b,iEq a b=(a == b))∧(∀ a b,iNe a b=(a != b))∧(∀ k a b,iAdd k a b=(k.wrap (a+b)))∧(∀ k a b,iSub k a b=(k.wrap (a - b)))∧(∀ k a b,iMul k a b=(k.wrap (a * b)))∧(∀ k a b,iQuo k a b=(k.wrap (a.tdiv b)))∧(∀ a b,iRem a b=(a.tmod b))∧(∀ k a b,iShr k a b=(a.fdiv (2 ^ min b.toNat k.bits)))∧(∀ k a,iNeg k a=(k.wrap (0 - a)))∧(∀ k a,iCvt k a=(k.wrap a))∧(∀ a b,iMax a b=(if b > a then b else a))∧(∀ a b,iMin a b=(if b<a then b else a))∧(∀ a,bNot a=(!a))∧(∀ a b,bEq a b=(a == b))∧(∀ a b,bNe a b=(!(a == b)))∧(∀ a b,bAnd a b=(a && b))∧(∀ a b,bOr a b=(a || b))∧(∀ a b,sEq a b=(a.toList == b.toList))∧(∀ a b,sNe a b=(!(a.toList == b.toList)))∧(∀ a,sLen a=(a.size))∧(∀ a b,sCat a b=(a++b))∧(∀ a lo hi,sCut a lo hi=(a.extract lo.toNat hi.toNat))∧(∀ a n,sAt a n=((a.data.getD n.toNat 0).toNat))∧(∀ es,lenA es=(es.length))∧(∀ es,lenN es=(es.length))∧(∀ n,iOf n=(n))∧(∀ n,natOf n=(n.toNat))∧(∀ es n,atA es n=(es.getD n.toNat .undef))∧(∀ es n,atN es n=(es.getD n .undef))∧(∀ es lo hi,cutA es lo hi=((es.take hi.toNat).drop lo.toNat))∧(∀ es lo len,partA es lo len=((es.drop lo).take len))∧(∀ es lo,dropA es lo=(es.drop lo))∧(∀ a b,catA a b=(a++b))∧(∀ es n v,setA es n v=(es.set n v))∧(∀ n v,repA n v=(List.replicate n.toNat v))∧(∀ es lo m new,putA es lo m new=(putE es lo m new))∧(∀ lo n,idxN lo n=(lo+n.toNat))∧(∀ a b,addN a b=(a+b))∧(∀ a b,subN a b=(a - b.toNat))∧(∀ a b,minN a b=(min a b))∧(∀ lo hi,lenCut lo hi=(hi.toNat - lo.toNat))∧(∀ cs n k,rowA cs n k=((cs.drop (n.toNat * k)).take k))∧(∀ st es x,mOk st es x=(mOkL st es x))∧(∀ st es x,mHas st es x=(mHasL st es x))∧(∀ st es x z,mGet st es x z=(mGetL st es x z))∧(∀ st es x v,mPut st es x v=(mPutL st es x v))∧(∀ s,bytA s=(byteA s))∧(∀ n,encR n=(Utf8.encode n)))),p):p :=
 words h
theorem cl_cons {v:AV} {l:List AV} (h:v.closed=true) (h2:AV.closedL l=true):AV.closedL (v :: l)=true:=by simp only [AV.closedL,h,h2,Bool.and_self]
theorem cl_agg {l:List AV} (h:AV.closedL l=true):(AV.agg l).closed=true:=h
theorem cl_isl {k:Nat} {l:List AV} (h:AV.closedL l=true):(AV.isl k l).closed=true:=h
theorem cl_iptr {l:List AV} (h:AV.closedL l=true):(AV.iptr l).closed=true:=h
theorem cl_fn {f:FuncId} {l:List AV} (h:AV.closedL l=true):(AV.fn f l).closed=true:=h
section
variable {E:Env} {n N:Nat} {Q:zL→AFr→zz→Prop} {k:List KI} {F:AFr} {H:zz}
theorem oPA {o:AOper} {l:List AOper} {f:FuncId} {xs:List Opd} {args:List AV} {v:AV} (hc:PCall E f args v) (h:zl E n N Q (.ops l) k (F.set o.dst v) H) (hg:o.guard=none:=by exact rfl) (ho:o.op=.call f xs:=by exact rfl) (ha:xs.map (·.ev E.G F)=args:=by exact rfl)
 (hcl:AV.closedL args=true:=by repeat' (first | rfl | assumption | apply cl_cons | apply cl_agg | apply cl_isl | apply cl_iptr | apply cl_fn)):zl E n N Q (.ops (o :: l)) k F H:=zh hg ho ha hc hcl h
theorem oPG {o:AOper} {l:List AOper} {f:FuncId} {xs:List Opd} {args:List AV} {v:AV} {d:Nat} {b:Bool} (hc:PCall E f args v) (h:zl E n N Q (.ops l) k (F.set o.dst v) H) (hg:o.guard=some (d,b):=by exact rfl) (hd:F.get d=.val (.bool b):=by exact rfl) (ho:o.op=.call f xs:=by exact rfl) (ha:xs.map (·.ev E.G F)=args:=by exact rfl)
 (hcl:AV.closedL args=true:=by repeat' (first | rfl | assumption | apply cl_cons | apply cl_agg | apply cl_isl | apply cl_iptr | apply cl_fn)):zl E n N Q (.ops (o :: l)) k F H:=xv hg hd ho ha hc hcl h
theorem oPT {K:List Kd→List zz→AFr→zz→Prop} {o:AOper} {l:List AOper} {f:FuncId} {xs:List Opd} {args:List AV} {v:AV} (hc:PCall E f args v) (h:TR E l (F.set o.dst v) H (fun ks=>K (.free :: ks))) (hg:zH F o.guard=some true:=by exact rfl) (ho:o.op=.call f xs:=by exact rfl) (ha:xs.map (·.ev E.G F)=args:=by exact rfl)
 (hcl:AV.closedL args=true:=by repeat' (first | rfl | assumption | apply cl_cons | apply cl_agg | apply cl_isl | apply cl_iptr | apply cl_fn)):TR E (o :: l) F H K:=xL hg ho ha hc hcl h
end
end Go.Am
end
