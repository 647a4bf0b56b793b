/- The abstract machine that the walks of this claim are carried out on: no condition. -/
import Derived.Test.YtpfnahcfnclgdaaGreatDoorPAm5
import Derived.Lib.Overlaps
import Derived.ChangeKeysEq
section
namespace Go.Am
inductive Kd where
 | free
 | look (b:Nat) (ob:Option AObj)
 | eff
def vK (G:Nat→AV) (o:AOp) (F:AFr):Option Nat :=
 match o with
 | .ld _ _ x=>match x.ev G F with
  | .ptr b _=>some b
  | .eptr b _ _ _=>some b
  | _=>none
 | _=>none
theorem evalBin_free {op:BinOp} {x y:AV} {H H' H1:zz} {c:Bool} {v:AV} (h:wa op x y H=some (c,v,H1)):wa op x y H'=some (c,v,H'):=by
 unfold wa at h ⊢
 split at h
 · split at h
   · rename_i hk
     rw [if_pos hk]
     cases op<;>simp [ans,rW] at h ⊢<;>first | exact h.1 | exact ⟨h.1,h.2.1⟩
   · cases h
 · cases op<;>simp [ans] at h ⊢<;>first | exact h.1 | exact ⟨h.1,h.2.1⟩
 · cases h
theorem free1 {G:Nat→AV} {o:AOp} {F:AFr} {H H' H1:zz} {c:Bool} {v:AV} (hq:yJ o=true) (hr:vK G o F=none) (h:zr G o F H=some (c,v,H1)):zr G o F H'=some (c,v,H'):=by
 cases o with
 | bin op x y=>exact evalBin_free h
 | ld k agg x =>
  simp only [zr,vK] at h hr ⊢
  split at h
  · rename_i cs hx
    split at h
    · rename_i u hu
      simp only [ans,Option.some.injEq,Prod.mk.injEq] at h ⊢
      exact ⟨h.1,h.2.1,trivial⟩
    · cases h
  · rename_i hx;rw [hx] at hr;cases hr
  · rename_i hx;rw [hx] at hr;cases hr
  · cases h
 | _=>first | (cases hq;done) | (simp only [zr,ans] at h ⊢;(repeat' split at h)<;>first | (simp only [Option.some.injEq,Prod.mk.injEq] at h;simp_all;done) | (simp_all;done) | cases h)
theorem free2 {G:Nat→AV} {o:AOp} {F:AFr} {H H' H1:zz} {c:Bool} {v:AV} (hq:yJ o=true) (h:zj G o F H=some (c,v,H1)):zj G o F H'=some (c,v,H'):=by
 cases o with
 | bin op x y =>
  cases op with
  | shr =>
   simp only [zj,s8] at h ⊢
   split at h
   · simp only [Option.some.injEq,Prod.mk.injEq,and_true] at h ⊢;exact ⟨h.1,h.2.1⟩
   · cases h
  | _=>simp [zj] at h
 | _=>first | (cases hq;done) | (simp only [zj,ans] at h ⊢;(repeat' split at h)<;>first | (simp only [Option.some.injEq,Prod.mk.injEq] at h;simp_all;done) | (simp_all;done) | cases h)
theorem none1 {G:Nat→AV} {o:AOp} {F:AFr} {H H':zz} (hq:yJ o=true) (hr:vK G o F=none) (h:zr G o F H=none):zr G o F H'=none:=by
 cases h':zr G o F H' with
 | none=>rfl
 | some r=>obtain ⟨c,v,H1⟩:=r;rw [free1 hq hr h'] at h;cases h
theorem free_any {G:Nat→AV} {o:AOp} {F:AFr} {H H1:zz} {c:Bool} {v:AV} (hq:yJ o=true) (hr:vK G o F=none) (h:zF G o F H=some (c,v,H1)) (H':zz):zF G o F H'=some (c,v,H'):=by
 unfold zF at h ⊢
 cases h1:zr G o F H with
 | some r =>
  rw [h1] at h
  dsimp only at h
  cases h
  rw [free1 (H':=H') hq hr h1]
 | none =>
  rw [h1] at h
  rw [none1 (H':=H') hq hr h1]
  exact free2 hq h
theorem look_any {G:Nat→AV} {o:AOp} {F:AFr} {H H1 H':zz} {c:Bool} {v:AV} {b:Nat} (hr:vK G o F=some b) (h:zF G o F H=some (c,v,H1)) (hb:H'[b]? = H[b]?):zF G o F H'=some (c,v,H'):=by
 cases o with
 | ld k agg x =>
  have h2:∀ H,zj G (.ld k agg x) F H=none:=fun _=>rfl
  simp only [vK] at hr
  split at hr
  · rename_i b' off hx
    cases hr
    simp only [zF,h2,zr,hx,cellsOf,hb] at h ⊢
    generalize H[b]? = ob at h ⊢
    cases ob with
    | none=>simp at h
    | some o =>
     cases o with
     | cells cs =>
      dsimp only at h ⊢
      cases ht:vm cs off k agg with
      | none=>rw [ht] at h;simp at h
      | some u=>rw [ht] at h;simp [ans] at h ⊢;exact ⟨h.1,h.2.1⟩
     | _=>simp at h
  · rename_i b' k' i j hx
    cases hr
    simp only [zF,h2,zr,hx,xj,hb] at h ⊢
    generalize H[b]? = ob at h ⊢
    cases ob with
    | none=>simp at h
    | some o =>
     cases o with
     | arr k2 es =>
      dsimp only at h ⊢
      cases hk:Nat.beq k' k2 with
      | false=>rw [hk] at h;simp at h
      | true =>
       rw [hk] at h
       simp only [if_true] at h ⊢
       cases ht:vm (es.getD i AV.undef).cells j k agg with
       | none=>rw [ht] at h;simp at h
       | some u=>rw [ht] at h;simp at h ⊢;exact ⟨h.1,h.2.1⟩
     | _=>simp at h
  · cases hr
 | _=>cases hr
inductive TRn (E:Env):List AOper→AFr→zz→List AV→List Kd→List zz→AFr→zz→Prop
 | nil (F H):TRn E [] F H [] [] [] F H
 | free {o l F H v V ks Hs F' H'} (hg:zH F o.guard=some true) (hq:yJ o.op=true) (hr:vK E.G o.op F=none) (he:zF E.G o.op F H=some (true,v,H)) (r:TRn E l (F.set o.dst v) H V ks Hs F' H'):TRn E (o :: l) F H (v :: V) (.free :: ks) Hs F' H'
 | look {o l F H v V ks Hs F' H' b} (hg:zH F o.guard=some true) (hr:vK E.G o.op F=some b) (he:zF E.G o.op F H=some (true,v,H)) (r:TRn E l (F.set o.dst v) H V ks Hs F' H'):TRn E (o :: l) F H (v :: V) (.look b H[b]? :: ks) Hs F' H'
 | skip {o l F H V ks Hs F' H'} (hg:zH F o.guard=some false) (r:TRn E l (F.set o.dst .undef) H V ks Hs F' H'):TRn E (o :: l) F H (.undef :: V) (.free :: ks) Hs F' H'
 | skipq {o l F H V ks Hs F' H'} (hg:ry F o.guard) (r:TRn E l (F.set o.dst (skV o)) H V ks Hs F' H'):TRn E (o :: l) F H (skV o :: V) (.free :: ks) Hs F' H'
 | pcall {o l F H v V ks Hs F' H'} (f:FuncId) (xs:List Opd) (args:List AV) (hg:zH F o.guard=some true) (ho:o.op=.call f xs) (ha:xs.map (·.ev E.G F)=args) (hc:PCall E f args v) (hcl:AV.closedL args=true) (r:TRn E l (F.set o.dst v) H V ks Hs F' H'):TRn E (o :: l) F H (v :: V) (.free :: ks) Hs F' H'
 | bslf {o l F H V ks Hs F' H'} (kk:Nat) (xs:List Opd) (es:List AV) (hg:zH F o.guard=some true) (ho:o.op=.bslice kk xs) (ha:xs.map (·.ev E.G F)=es) (hf:wK kk es=true) (r:TRn E l (F.set o.dst (.isl kk es)) H V ks Hs F' H'):TRn E (o :: l) F H (.isl kk es :: V) (.free :: ks) Hs F' H'
 | eff {o l F H v H1 V ks Hs F' H'} (hg:zH F o.guard=some true) (he:zF E.G o.op F H=some (true,v,H1)) (r:TRn E l (F.set o.dst v) H1 V ks Hs F' H'):TRn E (o :: l) F H (v :: V) (.eff :: ks) (H1 :: Hs) F' H'
 | ecall {o l F H v H1 V ks Hs F' H'} (f:FuncId) (xs:List Opd) (args:List AV) (hg:zH F o.guard=some true) (ho:o.op=.call f xs) (ha:xs.map (·.ev E.G F)=args) (hen:xu E.P f) (hc:ACall E f args H fun v' H''=>v'=v∧H''=H1) (r:TRn E l (F.set o.dst v) H1 V ks Hs F' H'):TRn E (o :: l) F H (v :: V) (.eff :: ks) (H1 :: Hs) F' H'
theorem TRn.len {E:Env} {l:List AOper} {F F':AFr} {H H':zz} {V:List AV} {ks:List Kd} {Hs:List zz} (h:TRn E l F H V ks Hs F' H'):V.length=l.length∧F'=uk F l V:=by
 induction h with
 | nil=>exact ⟨rfl,rfl⟩
 | _=>rename_i ih;exact ⟨by simp [ih.1],by simp only [uk];exact ih.2⟩
theorem TRn.get {E:Env} {l:List AOper} {F F':AFr} {H H':zz} {V:List AV} {ks:List Kd} {Hs:List zz} (h:TRn E l F H V ks Hs F' H') (t:Nat) (hd:∀ o∈l,o.dst≠some t):F'.get t=F.get t:=by
 rw [h.len.2,vg l V F t (fun i o ho=>hd o (List.mem_of_getElem? ho))]
def yY : Nat→List Kd→List Nat
 | _,[]=>[]
 | i,.eff :: r=>i :: yY (i+1) r
 | i,_ :: r=>yY (i+1) r
theorem wn : ∀ {ks:List Kd} {i x:Nat},x∈yY i ks→i≤x
 | [],i,x,h=>by cases h
 | .eff :: r,i,x,h=>by
  rcases List.mem_cons.1 h with rfl | h
  · exact Nat.le_refl _
  · have:=wn h;omega
 | .free :: r,i,x,h=>by have:=wn (ks:=r) h;omega
 | .look b ob :: r,i,x,h=>by have:=wn (ks:=r) h;omega
theorem effIdx_lt : ∀ {ks:List Kd} {i x:Nat},x∈yY i ks→x<i+ks.length
 | [],i,x,h=>by cases h
 | .eff :: r,i,x,h=>by
  rcases List.mem_cons.1 h with rfl | h
  · simp
  · have:=effIdx_lt h;simp;omega
 | .free :: r,i,x,h=>by have:=effIdx_lt (ks:=r) h;simp;omega
 | .look b ob :: r,i,x,h=>by have:=effIdx_lt (ks:=r) h;simp;omega
theorem effIdx_nodup : ∀ (ks:List Kd) (i:Nat),(yY i ks).Nodup
 | [],i=>List.nodup_nil
 | .eff :: r,i=>List.nodup_cons.2 ⟨fun h=>by have:=wn h;omega,effIdx_nodup r _⟩
 | .free :: r,i=>effIdx_nodup r _
 | .look b ob :: r,i=>effIdx_nodup r _
def zd (B chain:List Nat) (i b:Nat) (ob:Option AObj):List zz→Nat→Prop
 | [],_=>True
 | H :: r,j=>(s3 B chain i j=true→H[b]? = ob)∧zd B chain i b ob r (j+1)
theorem lookAll_spec {B chain:List Nat} {i b:Nat} {ob:Option AObj}:∀ {Hs:List zz} {j:Nat},zd B chain i b ob Hs j→∀ (m:Nat) H,Hs[m]? = some H→s3 B chain i (j+m)=true→H[b]? = ob
 | [],j,h,m,H,hm,_=>by simp at hm
 | H0 :: r,j,h,m,H,hm,hp=>by
  cases m with
  | zero=>simp at hm;subst hm;exact h.1 hp
  | succ m=>exact lookAll_spec h.2 m H (by simpa using hm) (by rwa [show j+1+m=j+(m+1) by omega])
def zJ (B chain:List Nat) (Hs:List zz):Nat→List Kd→Prop
 | _,[]=>True
 | i,.look b ob :: r=>zd B chain i b ob Hs 0∧zJ B chain Hs (i+1) r
 | i,_ :: r=>zJ B chain Hs (i+1) r
theorem TRn.dop {E:Env} {B:List Nat} {l:List AOper} {F F':AFr} {H H':zz} {V:List AV} {ks:List Kd} {Hs:List zz} (h:TRn E l F H V ks Hs F' H') :
 ∀ (base:Nat) (pre:List Nat) (preH:List zz),preH.length=pre.length→(∀ x∈pre,x<base)→zJ B (pre++yY base ks) (preH++H :: Hs) base ks →
 (∀ (i:Nat) o,l[i]? = some o→∀ t∈o.looks,∀ (k:Nat) o',i≤k→l[k]? = some o'→o'.dst≠some t) →
 ∀ (i:Nat) o v,l[i]? = some o→V[i]? = some v→DOp E B (pre++yY base ks) F' (preH++H :: Hs) (base+i) o v:=by
 induction h with
 | nil=>intro base pre preH _ _ _ _ i o v ho;simp at ho
 | @free o l F H v V ks Hs F' H' hg hq hr he r ih =>
  intro base pre preH hlen hpre hlk hl i o' v' ho' hv'
  have hlks:∀ t∈o.looks,F.get t=F'.get t:=fun t ht=>by
   rw [TRn.get r t (fun o' ho'=>by obtain ⟨k,hk⟩:=List.getElem?_of_mem ho';exact hl 0 o rfl t ht (k+1) o' (by omega) (by simpa using hk)),AFr.get_set,if_neg (hl 0 o rfl t ht 0 o (Nat.le_refl _) rfl)]
  cases i with
  | zero =>
   simp at ho' hv';subst ho' hv'
   refine .free (by rw [← ye hlks];exact hg) (fun H2=>⟨true,?_,rfl⟩) ?_
   · rw [← yG (xX hlks)];exact free_any hq hr he H2
   · rw [Bool.eq_false_iff];intro hc
     rw [List.contains_iff_mem] at hc
     rcases List.mem_append.1 hc with hc | hc
     · have:=hpre _ hc;omega
     · have:=wn (ks:=ks) (show base+0∈yY (base+1) ks from hc);omega
  | succ i =>
   have:=ih (base+1) pre preH hlen (fun x hx=>Nat.lt_succ_of_lt (hpre x hx)) hlk (fun i o'' ho t ht k o3 hk ho3=>hl (i+1) o'' (by simpa using ho) t ht (k+1) o3 (by omega) (by simpa using ho3)) i o' v' (by simpa using ho') (by simpa using hv')
   rwa [show base+1+i=base+(i+1) by omega] at this
 | @look o l F H v V ks Hs F' H' b hg hr he r ih =>
  intro base pre preH hlen hpre hlk hl i o' v' ho' hv'
  have hlks:∀ t∈o.looks,F.get t=F'.get t:=fun t ht=>by
   rw [TRn.get r t (fun o' ho'=>by obtain ⟨k,hk⟩:=List.getElem?_of_mem ho';exact hl 0 o rfl t ht (k+1) o' (by omega) (by simpa using hk)),AFr.get_set,if_neg (hl 0 o rfl t ht 0 o (Nat.le_refl _) rfl)]
  cases i with
  | zero =>
   simp at ho' hv';subst ho' hv'
   refine .look (by rw [← ye hlks];exact hg) (fun j H2 hj hp=>⟨true,?_,rfl⟩) ?_
   · rw [← yG (xX hlks)]
     exact look_any hr he (lookAll_spec hlk.1 j H2 hj (by simpa using hp))
   · rw [Bool.eq_false_iff];intro hc
     rw [List.contains_iff_mem] at hc
     rcases List.mem_append.1 hc with hc | hc
     · have:=hpre _ hc;omega
     · have:=wn (ks:=ks) (show base+0∈yY (base+1) ks from hc);omega
  | succ i =>
   have:=ih (base+1) pre preH hlen (fun x hx=>Nat.lt_succ_of_lt (hpre x hx)) hlk.2 (fun i o'' ho t ht k o3 hk ho3=>hl (i+1) o'' (by simpa using ho) t ht (k+1) o3 (by omega) (by simpa using ho3)) i o' v' (by simpa using ho') (by simpa using hv')
   rwa [show base+1+i=base+(i+1) by omega] at this
 | @skip o l F H V ks Hs F' H' hg r ih =>
  intro base pre preH hlen hpre hlk hl i o' v' ho' hv'
  have hlks:∀ t∈o.looks,F.get t=F'.get t:=fun t ht=>by
   rw [TRn.get r t (fun o' ho'=>by obtain ⟨k,hk⟩:=List.getElem?_of_mem ho';exact hl 0 o rfl t ht (k+1) o' (by omega) (by simpa using hk)),AFr.get_set,if_neg (hl 0 o rfl t ht 0 o (Nat.le_refl _) rfl)]
  cases i with
  | zero =>
   simp at ho' hv';subst ho' hv'
   refine .skip (.inl (by rw [← ye hlks];exact hg)) (.inl rfl) ?_
   rw [Bool.eq_false_iff];intro hc
   rw [List.contains_iff_mem] at hc
   rcases List.mem_append.1 hc with hc | hc
   · have:=hpre _ hc;omega
   · have:=wn (ks:=ks) (show base+0∈yY (base+1) ks from hc);omega
  | succ i =>
   have:=ih (base+1) pre preH hlen (fun x hx=>Nat.lt_succ_of_lt (hpre x hx)) hlk (fun i o'' ho t ht k o3 hk ho3=>hl (i+1) o'' (by simpa using ho) t ht (k+1) o3 (by omega) (by simpa using ho3)) i o' v' (by simpa using ho') (by simpa using hv')
   rwa [show base+1+i=base+(i+1) by omega] at this
 | @skipq o l F H V ks Hs F' H' hg r ih =>
  intro base pre preH hlen hpre hlk hl i o' v' ho' hv'
  have hlks:∀ t∈o.looks,F.get t=F'.get t:=fun t ht=>by
   rw [TRn.get r t (fun o' ho'=>by obtain ⟨k,hk⟩:=List.getElem?_of_mem ho';exact hl 0 o rfl t ht (k+1) o' (by omega) (by simpa using hk)),AFr.get_set,if_neg (hl 0 o rfl t ht 0 o (Nat.le_refl _) rfl)]
  cases i with
  | zero =>
   simp at ho' hv';subst ho' hv'
   refine .skip (looks_skip (fun t ht=>(hlks t ht).symm) hg) (.inr rfl) ?_
   rw [Bool.eq_false_iff];intro hc
   rw [List.contains_iff_mem] at hc
   rcases List.mem_append.1 hc with hc | hc
   · have:=hpre _ hc;omega
   · have:=wn (ks:=ks) (show base+0∈yY (base+1) ks from hc);omega
  | succ i =>
   have:=ih (base+1) pre preH hlen (fun x hx=>Nat.lt_succ_of_lt (hpre x hx)) hlk (fun i o'' ho t ht k o3 hk ho3=>hl (i+1) o'' (by simpa using ho) t ht (k+1) o3 (by omega) (by simpa using ho3)) i o' v' (by simpa using ho') (by simpa using hv')
   rwa [show base+1+i=base+(i+1) by omega] at this
 | @pcall o l F H v V ks Hs F' H' f xs args hg ho ha hc hcl r ih =>
  intro base pre preH hlen hpre hlk hl i o' v' ho' hv'
  have hlks:∀ t∈o.looks,F.get t=F'.get t:=fun t ht=>by
   rw [TRn.get r t (fun o' ho'=>by obtain ⟨k,hk⟩:=List.getElem?_of_mem ho';exact hl 0 o rfl t ht (k+1) o' (by omega) (by simpa using hk)),AFr.get_set,if_neg (hl 0 o rfl t ht 0 o (Nat.le_refl _) rfl)]
  cases i with
  | zero =>
   simp at ho' hv';subst ho' hv'
   refine .call f xs args (by rw [← ye hlks];exact hg) ho ?_ hc.1 (fun j H2 hj hp=>hc.lift hcl) ?_
   · rw [← ha];exact (List.map_congr_left fun x hx=>xX hlks x (by rw [ho];exact hx)).symm
   · rw [Bool.eq_false_iff];intro hc
     rw [List.contains_iff_mem] at hc
     rcases List.mem_append.1 hc with hc | hc
     · have:=hpre _ hc;omega
     · have:=wn (ks:=ks) (show base+0∈yY (base+1) ks from hc);omega
  | succ i =>
   have:=ih (base+1) pre preH hlen (fun x hx=>Nat.lt_succ_of_lt (hpre x hx)) hlk (fun i o'' ho t ht k o3 hk ho3=>hl (i+1) o'' (by simpa using ho) t ht (k+1) o3 (by omega) (by simpa using ho3)) i o' v' (by simpa using ho') (by simpa using hv')
   rwa [show base+1+i=base+(i+1) by omega] at this
 | @bslf o l F H V ks Hs F' H' kk xs es hg ho ha hf r ih =>
  intro base pre preH hlen hpre hlk hl i o' v' ho' hv'
  have hlks:∀ t∈o.looks,F.get t=F'.get t:=fun t ht=>by
   rw [TRn.get r t (fun o' ho'=>by obtain ⟨k,hk⟩:=List.getElem?_of_mem ho';exact hl 0 o rfl t ht (k+1) o' (by omega) (by simpa using hk)),AFr.get_set,if_neg (hl 0 o rfl t ht 0 o (Nat.le_refl _) rfl)]
  cases i with
  | zero =>
   simp at ho' hv';subst ho' hv'
   refine .bslf kk xs es (by rw [← ye hlks];exact hg) ho ?_ hf rfl ?_
   · rw [← ha];exact (List.map_congr_left fun x hx=>xX hlks x (by rw [ho];exact hx)).symm
   · rw [Bool.eq_false_iff];intro hc
     rw [List.contains_iff_mem] at hc
     rcases List.mem_append.1 hc with hc | hc
     · have:=hpre _ hc;omega
     · have:=wn (ks:=ks) (show base+0∈yY (base+1) ks from hc);omega
  | succ i =>
   have:=ih (base+1) pre preH hlen (fun x hx=>Nat.lt_succ_of_lt (hpre x hx)) hlk (fun i o'' ho t ht k o3 hk ho3=>hl (i+1) o'' (by simpa using ho) t ht (k+1) o3 (by omega) (by simpa using ho3)) i o' v' (by simpa using ho') (by simpa using hv')
   rwa [show base+1+i=base+(i+1) by omega] at this
 | @eff o l F H v H1 V ks Hs F' H' hg he r ih =>
  intro base pre preH hlen hpre hlk hl i o' v' ho' hv'
  have hlks:∀ t∈o.looks,F.get t=F'.get t:=fun t ht=>by
   rw [TRn.get r t (fun o' ho'=>by obtain ⟨k,hk⟩:=List.getElem?_of_mem ho';exact hl 0 o rfl t ht (k+1) o' (by omega) (by simpa using hk)),AFr.get_set,if_neg (hl 0 o rfl t ht 0 o (Nat.le_refl _) rfl)]
  have e1:pre++yY base (.eff :: ks)=(pre++[base])++yY (base+1) ks:=by simp [yY]
  have e2:preH++H :: H1 :: Hs=(preH++[H])++H1 :: Hs:=by simp
  cases i with
  | zero =>
   simp at ho' hv';subst ho' hv'
   refine .eff pre.length H H1 true (by rw [← ye hlks];exact hg) (by simp [yY]) (by rw [← hlen];simp) (by rw [← hlen];simp) (by rw [← yG (xX hlks)];exact he) rfl
  | succ i =>
   have:=ih (base+1) (pre++[base]) (preH++[H]) (by simp [hlen]) (fun x hx=>by
    rcases List.mem_append.1 hx with hx | hx
    · exact Nat.lt_succ_of_lt (hpre x hx)
    · simp at hx;omega) (by rw [← e1,← e2];exact hlk) (fun i o'' ho t ht k o3 hk ho3=>hl (i+1) o'' (by simpa using ho) t ht (k+1) o3 (by omega) (by simpa using ho3)) i o' v' (by simpa using ho') (by simpa using hv')
   rw [← e1,← e2] at this
   rwa [show base+1+i=base+(i+1) by omega] at this
 | @ecall o l F H v H1 V ks Hs F' H' f xs args hg ho ha hen hc r ih =>
  intro base pre preH hlen hpre hlk hl i o' v' ho' hv'
  have hlks:∀ t∈o.looks,F.get t=F'.get t:=fun t ht=>by
   rw [TRn.get r t (fun o' ho'=>by obtain ⟨k,hk⟩:=List.getElem?_of_mem ho';exact hl 0 o rfl t ht (k+1) o' (by omega) (by simpa using hk)),AFr.get_set,if_neg (hl 0 o rfl t ht 0 o (Nat.le_refl _) rfl)]
  have e1:pre++yY base (.eff :: ks)=(pre++[base])++yY (base+1) ks:=by simp [yY]
  have e2:preH++H :: H1 :: Hs=(preH++[H])++H1 :: Hs:=by simp
  cases i with
  | zero =>
   simp at ho' hv';subst ho' hv'
   refine .ecall pre.length H H1 f xs args (by rw [← ye hlks];exact hg) (by simp [yY]) (by rw [← hlen];simp) (by rw [← hlen];simp) ho ?_ hen hc
   rw [← ha];exact (List.map_congr_left fun x hx=>xX hlks x (by rw [ho];exact hx)).symm
  | succ i =>
   have:=ih (base+1) (pre++[base]) (preH++[H]) (by simp [hlen]) (fun x hx=>by
    rcases List.mem_append.1 hx with hx | hx
    · exact Nat.lt_succ_of_lt (hpre x hx)
    · simp at hx;omega) (by rw [← e1,← e2];exact hlk) (fun i o'' ho t ht k o3 hk ho3=>hl (i+1) o'' (by simpa using ho) t ht (k+1) o3 (by omega) (by simpa using ho3)) i o' v' (by simpa using ho') (by simpa using hv')
   rw [← e1,← e2] at this
   rwa [show base+1+i=base+(i+1) by omega] at this
theorem TRn.kinds3 {E:Env} {l:List AOper} {F F':AFr} {H H':zz} {V:List AV} {ks:List Kd} {Hs:List zz} (h:TRn E l F H V ks Hs F' H'):ks.length=l.length∧(∀ i,Hs.length=(yY i ks).length)∧(H :: Hs)[Hs.length]? = some H':=by
 induction h with
 | nil=>exact ⟨rfl,fun _=>rfl,rfl⟩
 | eff hg he r ih=>exact ⟨by simp [ih.1],fun i=>by simp only [yY,List.length_cons];rw [ih.2.1 (i+1)],by simpa using ih.2.2⟩
 | ecall f xs args hg ho ha hen hc r ih=>exact ⟨by simp [ih.1],fun i=>by simp only [yY,List.length_cons];rw [ih.2.1 (i+1)],by simpa using ih.2.2⟩
 | _=>rename_i ih;exact ⟨by simp [ih.1],fun i=>by simp only [yY];exact ih.2.1 (i+1),ih.2.2⟩
def TR (E:Env) (l:List AOper) (F:AFr) (H:zz) (K:List Kd→List zz→AFr→zz→Prop):Prop:=∃ V ks Hs F' H',TRn E l F H V ks Hs F' H'∧K ks Hs F' H'
section
variable {E:Env} {n N:Nat} {Q:zL→AFr→zz→Prop} {k:List KI} {F:AFr} {H:zz} {K:List Kd→List zz→AFr→zz→Prop}
theorem tr_draw {ops:List AOper} (hm:E.P.follows .mixedOrders=true) (hwf:uZ ops (vL ops [])=true) (h:TR E ops F H (fun ks Hs F' H'=>xY (vL ops []) (yY 0 ks).length (yY 0 ks)=[yY 0 ks]∧zJ (vL ops []) (yY 0 ks) (H :: Hs) 0 ks∧zl E n N Q (.out .normal) k F' H')):zl E n N Q (.code (.draw ops)) k F H:=by
 obtain ⟨V,ks,Hs,F',H',ht,h1,h2,h3⟩:=h
 have wf:=wfDraw_spec hwf
 have hB:∀ i k,((vL ops []).getD i 0).testBit k=true→Anc ops k i:=by
  have:=uJ ops [] [] rfl (fun i k hk=>by simp at hk)
  simpa using this
 obtain ⟨m1,m2,m3⟩:=ht.kinds3
 refine awp_draw hm (yY 0 ks) hwf ?_ (effIdx_nodup _ _) fun chain hch=>?_
 · rw [List.all_eq_true];intro x hx
   have:=effIdx_lt hx
   exact Nat.ble_eq_true_of_le (by omega)
 · rw [h1,List.mem_singleton] at hch
   subst hch
   refine ⟨V,H :: Hs,H',ht.len.1,by simp [m2 0],rfl,fun i o v ho hv=>?_,?_,?_⟩
   · rw [← ht.len.2]
     have:=ht.dop (B:=vL ops []) 0 [] [] rfl (fun x hx=>by cases hx) h2 (fun i o ho t ht k o' hik hk hd=>by
      have:=(hB i k (wf.look i k o o' t ho hk ht hd)).lt wf
      omega) i o v ho hv
     simpa using this
   · rw [← m2 0];exact m3
   · rw [← ht.len.2];exact h3
theorem zK (h:K [] [] F H):TR E [] F H K:=⟨[],[],[],F,H,.nil _ _,h⟩
theorem tr_free {o:AOper} {l:List AOper} {v:AV} (hg:zH F o.guard=some true) (hq:yJ o.op=true) (hr:vK E.G o.op F=none) (he:zF E.G o.op F H=some (true,v,H)) (h:TR E l (F.set o.dst v) H (fun ks=>K (.free :: ks))):TR E (o :: l) F H K:=by
 obtain ⟨V,ks,Hs,F',H',a,b⟩:=h;exact ⟨_,_,_,_,_,.free hg hq hr he a,b⟩
theorem tr_look {o:AOper} {l:List AOper} {v:AV} {b:Nat} (hg:zH F o.guard=some true) (hr:vK E.G o.op F=some b) (he:zF E.G o.op F H=some (true,v,H)) (h:TR E l (F.set o.dst v) H (fun ks=>K (.look b H[b]? :: ks))):TR E (o :: l) F H K:=by
 obtain ⟨V,ks,Hs,F',H',a,b⟩:=h;exact ⟨_,_,_,_,_,.look hg hr he a,b⟩
theorem zq {o:AOper} {l:List AOper} (hg:ry F o.guard) (h:TR E l (F.set o.dst (skV o)) H (fun ks=>K (.free :: ks))):TR E (o :: l) F H K:=by
 obtain ⟨V,ks,Hs,F',H',a,b⟩:=h;exact ⟨_,_,_,_,_,.skipq hg a,b⟩
theorem xL {o:AOper} {l:List AOper} {f:FuncId} {xs:List Opd} {args:List AV} {v:AV} (hg:zH F o.guard=some true) (ho:o.op=.call f xs) (ha:xs.map (·.ev E.G F)=args) (hc:PCall E f args v) (hcl:AV.closedL args=true) (h:TR E l (F.set o.dst v) H (fun ks=>K (.free :: ks))):TR E (o :: l) F H K:=by
 obtain ⟨V,ks,Hs,F',H',a,b⟩:=h;exact ⟨_,_,_,_,_,.pcall f xs args hg ho ha hc hcl a,b⟩
theorem tr_bslf {o:AOper} {l:List AOper} {kk:Nat} {xs:List Opd} {es:List AV} (hg:zH F o.guard=some true) (ho:o.op=.bslice kk xs) (ha:xs.map (·.ev E.G F)=es) (hf:wK kk es=true) (h:TR E l (F.set o.dst (.isl kk es)) H (fun ks=>K (.free :: ks))):TR E (o :: l) F H K:=by
 obtain ⟨V,ks,Hs,F',H',a,b⟩:=h;exact ⟨_,_,_,_,_,.bslf kk xs es hg ho ha hf a,b⟩
theorem tr_eff {o:AOper} {l:List AOper} {v:AV} {H1:zz} (hg:zH F o.guard=some true) (he:zF E.G o.op F H=some (true,v,H1)) (h:TR E l (F.set o.dst v) H1 (fun ks Hs=>K (.eff :: ks) (H1 :: Hs))):TR E (o :: l) F H K:=by
 obtain ⟨V,ks,Hs,F',H',a,b⟩:=h;exact ⟨_,_,_,_,_,.eff hg he a,b⟩
theorem tr_ocall {o:AOper} {l:List AOper} {f:FuncId} {xs:List Opd} {args:List AV} {v v':AV} {H0 H':zz} (hg:zH F o.guard=some true) (ho:o.op=.call f xs) (ha:xs.map (·.ev E.G F)=args) (hc:OCall E f args v H0) (hcl:AV.closedL args=true)
 (hv:v.sub (sh H.length)=v') (hH:H0.map (AObj.sub (sh H.length))=H') (h:TR E l (F.set o.dst v') (H++H') (fun ks Hs=>K (.eff :: ks) ((H++H') :: Hs))):TR E (o :: l) F H K:=by
 obtain ⟨V,ks,Hs,F',H2,a,b⟩:=h
 exact ⟨_,_,_,_,_,.ecall f xs args hg ho ha hc.1 (by subst hv hH;exact hc.lift hcl) a,b⟩
end
def sg (X:xg) (G:Nat→AV):Nat→List AOper→AFr→zz→Cd × List AOper × AFr × zz × List Kd × List zz
 | 0,l,F,H=>(.tt,l,F,H,[],[])
 | _+1,[],F,H=>(.tt,[],F,H,[],[])
 | f+1,o :: l,F,H =>
  match o.guard with
  | none=>match opX X G o.op F H with
   | some (c,v,H1)=>cond (yJ o.op)
    (match vK G o.op F with
    | none=>match sg X G f l (F.set o.dst v) H with
     | (c',r,F',H',ks,Hs)=>(vQ c c',r,F',H',.free :: ks,Hs)
    | some b=>match sg X G f l (F.set o.dst v) H with
     | (c',r,F',H',ks,Hs)=>(vQ c c',r,F',H',.look b H[b]? :: ks,Hs))
    (match sg X G f l (F.set o.dst v) H1 with
    | (c',r,F',H',ks,Hs)=>(vQ c c',r,F',H',.eff :: ks,H1 :: Hs))
   | none=>(.tt,o :: l,F,H,[],[])
  | some _=>(.tt,o :: l,F,H,[],[])
theorem uy {E:Env} {X:xg} (hXs:X=std):∀ (f:Nat) (l:List AOper) (F:AFr) (H:zz) (K:List Kd→List zz→AFr→zz→Prop) {c:Cd} {rest:List AOper} {F':AFr} {H':zz} {ks:List Kd} {Hs:List zz},sg X E.G f l F H=(c,rest,F',H',ks,Hs)→c.ok →
 TR E rest F' H' (fun k2 H2=>K (ks++k2) (Hs++H2))→TR E l F H K
 | 0,l,F,H,K,c,rest,F',H',ks,Hs,hr,hc,h=>by simp only [sg] at hr;cases hr;exact h
 | f+1,[],F,H,K,c,rest,F',H',ks,Hs,hr,hc,h=>by simp only [sg] at hr;cases hr;exact h
 | f+1,o :: l,F,H,K,c,rest,F',H',ks,Hs,hr,hc,h=>by
  simp only [sg] at hr
  split at hr
  · rename_i hg
    have hw:zH F o.guard=some true:=by rw [hg];rfl
    split at hr
    · rename_i c0 v H1 hop
      cases hq:yJ o.op with
      | true =>
       rw [hq,cond_true] at hr
       cases hrd:vK E.G o.op F with
       | none =>
        rw [hrd] at hr
        dsimp only at hr
        cases hx:sg X E.G f l (F.set o.dst v) H with
        | mk c' r =>
         obtain ⟨r1,r2,r3,r4,r5⟩:=r
         rw [hx] at hr
         simp only [Prod.mk.injEq] at hr
         obtain ⟨rfl,rfl,rfl,rfl,rfl,rfl⟩:=hr
         have hc:=yL hc
         have hop:=vN hXs hop hc.1
         have hH:=vZ hq hop
         rw [hH] at hop
         exact tr_free hw hq hrd hop (uy hXs f l _ _ _ hx hc.2 h)
       | some b =>
        rw [hrd] at hr
        dsimp only at hr
        cases hx:sg X E.G f l (F.set o.dst v) H with
        | mk c' r =>
         obtain ⟨r1,r2,r3,r4,r5⟩:=r
         rw [hx] at hr
         simp only [Prod.mk.injEq] at hr
         obtain ⟨rfl,rfl,rfl,rfl,rfl,rfl⟩:=hr
         have hc:=yL hc
         have hop:=vN hXs hop hc.1
         have hH:=vZ hq hop
         rw [hH] at hop
         exact tr_look hw hrd hop (uy hXs f l _ _ _ hx hc.2 h)
      | false =>
       rw [hq,cond_false] at hr
       cases hx:sg X E.G f l (F.set o.dst v) H1 with
       | mk c' r =>
        obtain ⟨r1,r2,r3,r4,r5⟩:=r
        rw [hx] at hr
        simp only [Prod.mk.injEq] at hr
        obtain ⟨rfl,rfl,rfl,rfl,rfl,rfl⟩:=hr
        have hc:=yL hc
        exact tr_eff hw (vN hXs hop hc.1) (uy hXs f l _ _ _ hx hc.2 h)
    · cases hr;exact h
  · cases hr;exact h
theorem ru {E:Env} {X:xg} (hXs:X=std) {l:List AOper} {F:AFr} {H:zz} {K:List Kd→List zz→AFr→zz→Prop} {c:Cd} {rest:List AOper} {F':AFr} {H':zz} {ks:List Kd} {Hs:List zz} (he:sg X E.G 1000 l F H=(c,rest,F',H',ks,Hs)) (hc:c.ok)
 (h:TR E rest F' H' (fun k2 H2=>K (ks++k2) (Hs++H2))):TR E l F H K:=uy hXs 1000 l F H K he hc h
theorem yr (f:Nat) {E:Env} {X:xg} (hXs:X=std) {l:List AOper} {F:AFr} {H:zz} {K:List Kd→List zz→AFr→zz→Prop} {c:Cd} {rest:List AOper} {F':AFr} {H':zz} {ks:List Kd} {Hs:List zz} (he:sg X E.G f l F H=(c,rest,F',H',ks,Hs)) (hc:c.ok)
 (h:TR E rest F' H' (fun k2 H2=>K (ks++k2) (Hs++H2))):TR E l F H K:=uy hXs f l F H K he hc h
end Go.Am
end
section
namespace Go.Am
section
variable {E:Env} {n N:Nat} {Q:zL→AFr→zz→Prop} {k:List KI} {F F':AFr} {H H' X:zz}
theorem ent_drop (hb:∀ o∈H,o.sub (vt H.length)=o) (hN:N≤H.length) (hF:FWk H.length (vt H.length) F F'):Ent E n N F (H++X) F' H:=by
 intro K w tmps h1 h2 h3
 obtain ⟨a,b,c⟩:=hrep_drop h1 hb
 exact ⟨K,a,⟨h2.1,fun t=>(hF.spec t).rep (c _ _ (h2.2 t))⟩,b N hN⟩
theorem wW {l:List AOper} (he:Ent E n N F H F' H') (h:zl E n N Q (.ops l) k F' H'):zl E n N Q (.ops l) k F H:=AOps.ent he h
theorem sZ {f:Opd} {ps:List Nat} {a b:ACode} {g:FuncId} {cs:List AV} (hf:f.ev E.G F=.fn g cs) (hen:xu E.P g)
 (h:ACall E g (.yld H.length :: cs) (H++[.loop F n ps a b .ready none]) (fun _ H1=>∃ st pd,H1[H.length]? = some (.loop F n ps a b st pd)∧st≠.busy∧uo E n N Q k (pd.getD .normal) F (H1.set H.length .dead))):zl E n N Q (.code (.rfun f ps a b)) k F H:=by
 refine awp_rfun ?_
 rw [hf]
 exact ⟨hen,h⟩
def ta (E:Env) (l:Nat) (F:AFr) (n:Nat) (ps:List Nat) (a b:ACode) (R:AV→zz→Prop) (e:zL) (F2:AFr) (H2:zz):Prop :=
  ∃ pd2,H2[l]? = some (.loop F n ps a b .busy pd2)∧match e with
        | .normal=>R (.val (.bool true)) (H2.set l (.loop F n ps a b .ready none))
        | e=>R (.val (.bool false)) (H2.set l (.loop F n ps a b .done (some e)))
def tM (E:Env) (l N:Nat) (F:AFr) (n:Nat) (ps:List Nat) (a b:ACode) (R:AV→zz→Prop) (e:zL) (F1:AFr) (H1:zz):Prop :=
 e=.normal∧∃ pd1,H1[l]? = some (.loop F n ps a b .ready pd1)∧zl E n N (ta E l F n ps a b R) (.code b) [] F1 (H1.set l (.loop F n ps a b .busy pd1))
theorem yield_round {l:Nat} {args:List AV} {R:AV→zz→Prop} {ps:List Nat} {a b:ACode} {pd:Option zL} (hl:H[l]? = some (.loop F n ps a b .ready pd)) (hlen:ps.length=args.length)
 (h:zl E n H.length (tM E l H.length F n ps a b R) (.code a) [] (vM F ps args) H):AYield E l args H R :=
 ayield_round hl hlen (AWP.mono h fun _e _F1 _H1 ⟨h1,pd1,h2,h3⟩=>⟨h1,pd1,h2,AWP.mono h3 fun _e _F2 _H2 h=>h⟩)
end
end Go.Am
end
section
namespace Go.Am
theorem prepOp_eqnil {P:Program} {op:Op} {neq:Bool} {x y:Opd} (h:za P op=.eqnil neq x y):∃ t e x' y' ty,op=.binOp (if neq then .neq else .eql) t x' y' ty∧P.underlying t=some (.slice e)∧x=opd x'∧y=opd y':=by
 cases op with
 | binOp op t x' y' ty =>
  simp only [za] at h
  split at h
  all_goals first
   | (cases h;done)
   | (split at h<;>cases h;done)
   | (simp only [AOp.eqnil.injEq] at h;obtain ⟨rfl,rfl,rfl⟩:=h;exact ⟨_,_,_,_,_,rfl,‹_›,rfl,rfl⟩)
 | makeFunc fn first caps=>cases fn<;>simp only [za] at h<;>(repeat' split at h)<;>cases h
 | makeMap t r=>cases r<;>simp [za] at h
 | call c =>
  obtain ⟨callee,args,ts⟩:=c
  simp only [za] at h
  (repeat' split at h)<;>cases h
 | _=>first | (simp [za] at h;done) | (simp only [za] at h;(repeat' split at h)<;>cases h)
def emptyA : AV→Prop
 | .isl _ es=>es=[]
 | .sl _ _ _ len=>len=0
 | _=>True
section
variable {E:Env} {n N:Nat} {F:AFr} {H:zz}
theorem nil_any {K:Ctx} {M:Nat} {w:World} {v:AV} {y:Value} (hv:(∃ k es,v=.isl k es)∨∃ b k lo len,v=.sl b k lo len) (h:VRep K M w v y):∃ a m c,y=.slice a m c∧(a.isNone=true→emptyA v):=by
 rcases hv with ⟨k,es,rfl⟩ | ⟨b,k,lo,len,rfl⟩
 · cases h with
   | islnil=>exact ⟨_,_,_,rfl,fun _=>rfl⟩
   | isl=>exact ⟨_,_,_,rfl,fun h=>by cases h⟩
 · cases h with
   | slnil=>exact ⟨_,_,_,rfl,fun _=>rfl⟩
   | sl0=>exact ⟨_,_,_,rfl,fun _=>rfl⟩
   | sl=>exact ⟨_,_,_,rfl,fun h=>by cases h⟩
theorem aops_eqnil {a:AOper} {rest:List AOper} {Q:AFr→zz→Prop} {neq:Bool} {x y:Opd} (hg:zH F a.guard=some true) (ho':a.op=.eqnil neq x y) (hv:(∃ k es,x.ev E.G F=.isl k es)∨∃ b k lo len,x.ev E.G F=.sl b k lo len) (hy:y.ev E.G F=.val (.slice none 0 0))
 (h:∀ t:Bool,(t=true→emptyA (x.ev E.G F))→AOps E n N rest (F.set a.dst (.val (.bool (if neq then !t else t)))) H Q):AOps E n N (a :: rest) F H Q:=by
 intro ops l hl K w tmps T ds k cs h1 h2 h3
 obtain ⟨i,l',o,rfl,ho,rfl,hl'⟩:=wr hl
 have hnb:(zI E.P n ops o).op≠.bad:=by rw [ho'];intro e;cases e
 obtain ⟨e1,e2,e3⟩:=wx hnb
 rw [e1] at ho' hnb
 have hw:=wU h2 e3 hg
 have hops:=tx h1 h2 (ρ:=(T.fr tmps ds (.inRegion ops (i :: l') :: k)).eval) (fun x=>Fc.eval_fr _ _ _ _ x)
 obtain ⟨t,e,x',y',ty,hop,hu,rfl,rfl⟩:=prepOp_eqnil ho'
 obtain ⟨ad,m,c,q1,q2⟩:=nil_any hv (hops x')
 have q3:=hops y'
 rw [hy] at q3
 have q3:=zM q3
 have hok:yM E K H w (execOp (T.fr tmps ds (.inRegion ops (i :: l') :: k)).eval o) (.val (.bool (if neq then !ad.isNone else ad.isNone))) H:=by
  have:=ok_eqnil h1 (neq:=neq) hu (xo:=x') (yo:=y') ad m c
  rw [← q1,← q3] at this
  cases neq<;>simpa only [execOp,hop,if_true,Bool.false_eq_true,if_false] using this
 obtain ⟨yv,w1,K1,hr,hv',hh,ev⟩:=hok
 have hst:=st_op_value (cs:=cs) ho hw (w8 hnb) hr
 have hF:=wq (Ev.mv h1 ev) h2 hv' o.dst (.inl e2)
 have h:=h ad.isNone q2
 rw [yH] at h
 obtain ⟨F',H',K',w',t',q,a1,a2,a3,a4⟩:=h ops l' hl' K1 w1 _ T ds k cs hh hF (Nat.le_trans h3 ev.len)
 exact ⟨F',H',K',w',t',q,a1,a2,(ev.mono h3).trans a3,.head hst a4⟩
variable {Q:zL→AFr→zz→Prop} {k:List KI}
theorem on_eqnilI {o:AOper} {l:List AOper} {neq:Bool} {x y:Opd} {kk:Nat} {es:List AV} (hg:o.guard=none) (ho:o.op=.eqnil neq x y) (hx:x.ev E.G F=.isl kk es) (hy:y.ev E.G F=.val (.slice none 0 0))
 (h:∀ t:Bool,(t=true→es=[])→zl E n N Q (.ops l) k (F.set o.dst (.val (.bool (if neq then !t else t)))) H):zl E n N Q (.ops (o :: l)) k F H :=
 aops_eqnil (by rw [hg];rfl) ho (.inl ⟨_,_,hx⟩) hy (fun t ht=>h t (by rw [hx] at ht;exact ht))
def tE (k:Nat):AV:=.agg (List.replicate k .undef)
theorem on_cap {cur:ACode} (t b kk lo m:Nat) {es:List AV} (hx:F.get t=.sl b kk lo m) (ha:H[b]? = some (.arr kk es)) (hlen:lo+m=es.length) (hm:0<m) (hN:N≤H.length)
 (h:∀ c,m≤c→zl E n N Q (.code cur) k ((t,.slc b kk lo m c) :: F) (H.set b (.arr kk (es++List.replicate (c - m) (tE kk))))):zl E n N Q (.code cur) k F H:=by
 intro c0 hc0 K w tmps T rs kq cs h1 h2 h3 h4
 have hv:=h2.2 t
 rw [hx] at hv
 have hbl:b<H.length:=(List.getElem?_eq_some_iff.1 ha).1
 generalize hyv:tmps.getD t undef=yv at hv
 cases hv with
 | slnil=>omega
 | sl0=>omega
 | sl _ _ _ _ cap blk base hM hg hle hs =>
  obtain ⟨c,cty,hheap,hck,hl⟩:=h1.arr ha hg
  obtain ⟨c2,t2,f2,g1,g2⟩:=hs
  rw [hheap] at g1;cases g1
  have hH:=h1.touch (o':=.arr kk (es++List.replicate (cap - m) (tE kk))) ha trivial hg (w':=w) ⟨fun _ _=>rfl,rfl,fun b c ty fz h=>⟨c,fz,h,rfl⟩,fun b r h=>⟨r,h⟩,rfl,rfl⟩ trivial (fun mv=>by
   refine .arr _ _ _ _ _ _ hheap (fun i e he=>?_) (fun i e he=>?_)
   · rcases Nat.lt_or_ge i es.length with hlt | hge
     · rw [List.getElem?_append_left hlt] at he;exact hck i e he
     · rw [List.getElem?_append_right hge,List.getElem?_replicate] at he
       split at he
       · cases he;simp [tE,AV.cells]
       · cases he
   · rcases Nat.lt_or_ge i es.length with hlt | hge
     · rw [List.getElem?_append_left hlt] at he;exact hl i e he
     · rw [List.getElem?_append_right hge,List.getElem?_replicate] at he
       split at he
       · rename_i hlt
         cases he
         intro j x hj
         simp only [tE,AV.cells,List.getElem?_replicate] at hj
         split at hj
         · rename_i hjk
           cases hj
           have hin:base+i * kk+j<c.size:=by
            have h5:i * kk+kk≤(lo+cap) * kk:=wh (by omega)
            omega
           exact ⟨_,Array.getElem?_eq_getElem hin,.undef _⟩
         · cases hj
       · cases he)
  obtain ⟨hh2,ev2⟩:=hH
  have hF2:vi n K (H.set b (.arr kk (es++List.replicate (cap - m) (tE kk)))).length w ((t,.slc b kk lo m cap) :: F) tmps:=by
   refine ⟨h2.1,fun u=>?_⟩
   have e0:=AFr.get_set F (some t) (.slc b kk lo m cap) u
   simp only [AFr.set] at e0
   rw [e0,List.length_set]
   split
   · rename_i heq;cases heq;rw [hyv];exact .slc _ _ _ _ _ blk base hM hg hle ⟨c,cty,(0,0),hheap,g2⟩
   · exact h2.2 u
  obtain ⟨e,F',H',K',w',tmps',nw,todo,r1,r2,r3,r4,r5,r6,r7⟩:=h cap hle c0 hc0 K w tmps T rs kq cs hh2 hF2 (by rw [List.length_set];exact h3) (h4.ev (ev2.mono hN))
  exact ⟨e,F',H',K',w',tmps',nw,todo,r1,r2,r3,(ev2.mono hN).trans r4,r5,r6,r7⟩
end
end Go.Am
end
section
namespace Go.Am
theorem uC {k m:Nat} {es:List AV} (h:AV.closedL es=true):[AObj.arr k es].map (AObj.sub (sh m))=[.arr k es]:=by simp [AObj.sub,zw _ h]
end Go.Am
end
section
namespace Go.Am
theorem DOp.congr {E:Env} {B chain:List Nat} {F F':AFr} {Hs:List zz} {i:Nat} {o:AOper} {v:AV} (hF:∀ t,F.get t=F'.get t) (h:DOp E B chain F Hs i o v):DOp E B chain F' Hs i o v:=by
 have ev:∀ x:Opd,x.ev E.G F=x.ev E.G F':=fun x=>by cases x with
  | t i=>exact hF i
  | _=>rfl
 have want:zH F o.guard=zH F' o.guard:=by
  cases o.guard with
  | none=>rfl
  | some p=>obtain ⟨d,b⟩:=p;simp only [zH,hF d]
 have args:∀ xs:List Opd,xs.map (·.ev E.G F)=xs.map (·.ev E.G F'):=fun xs=>List.map_congr_left fun x _=>ev x
 have eo:∀ H,zF E.G o.op F H=zF E.G o.op F' H:=fun H=>yG fun x _=>ev x
 cases h with
 | skip hg hv hc=>exact .skip (hg.elim (fun h=>.inl (want ▸ h)) fun ⟨d,b,h1,h2⟩=>.inr ⟨d,b,h1,hF d ▸ h2⟩) hv hc
 | free hg h hc=>exact .free (want ▸ hg) (fun H=>by rw [← eo];exact h H) hc
 | look hg h hc=>exact .look (want ▸ hg) (fun j H hj hp=>by rw [← eo];exact h j H hj hp) hc
 | call f xs az hg ho ha hen h hc=>exact .call f xs az (want ▸ hg) ho (by rw [← args];exact ha) hen h hc
 | bslf kk xs es hg ho ha hf hv hc=>exact .bslf kk xs es (want ▸ hg) ho (by rw [← args];exact ha) hf hv hc
 | eff j H H' c hg hj h1 h2 h hc=>exact .eff j H H' c (want ▸ hg) hj h1 h2 (by rw [← eo];exact h) hc
 | ecall j H H' f xs az hg hj h1 h2 ho ha hen h=>exact .ecall j H H' f xs az (want ▸ hg) hj h1 h2 ho (by rw [← args];exact ha) hen h
def xh : List Nat→List Kd→List Nat
 | i :: ls,.eff :: r=>i :: xh ls r
 | _ :: ls,_ :: r=>xh ls r
 | _,_=>[]
theorem effLab_mem : ∀ {ls:List Nat} {ks:List Kd} {x:Nat},x∈xh ls ks→x∈ls
 | [],ks,x,h=>by cases ks<;>cases h
 | i :: ls,[],x,h=>by cases h
 | i :: ls,.eff :: r,x,h=>by
  rcases List.mem_cons.1 h with rfl | h
  · exact List.mem_cons_self
  · exact List.mem_cons_of_mem _ (effLab_mem h)
 | i :: ls,.free :: r,x,h=>List.mem_cons_of_mem _ (effLab_mem (ks:=r) h)
 | i :: ls,.look b ob :: r,x,h=>List.mem_cons_of_mem _ (effLab_mem (ks:=r) h)
def vb (B chain:List Nat) (Hs:List zz):List Nat→List Kd→Prop
 | i :: ls,.look b ob :: r=>zd B chain i b ob Hs 0∧vb B chain Hs ls r
 | _ :: ls,_ :: r=>vb B chain Hs ls r
 | _,_=>True
theorem TRn.dopL {E:Env} {B:List Nat} {l:List AOper} {F F':AFr} {H H':zz} {V:List AV} {ks:List Kd} {Hs:List zz} (h:TRn E l F H V ks Hs F' H') :
 ∀ (ls:List Nat) (pre:List Nat) (preH:List zz),ls.length=l.length→ls.Nodup→preH.length=pre.length→(∀ x∈pre,x∉ls)→vb B (pre++xh ls ks) (preH++H :: Hs) ls ks →
 (∀ (i:Nat) o,l[i]? = some o→∀ t∈o.looks,∀ (k:Nat) o',i≤k→l[k]? = some o'→o'.dst≠some t) →
 ∀ (i:Nat) o v x,l[i]? = some o→V[i]? = some v→ls[i]? = some x→DOp E B (pre++xh ls ks) F' (preH++H :: Hs) x o v:=by
 have nocont:∀ {pre ls:List Nat} {ks:List Kd} {x:Nat},(∀ y∈pre,y∉x :: ls)→(x :: ls).Nodup→(pre++xh ls ks).contains x=false:=by
  intro pre ls ks x hp hn
  rw [Bool.eq_false_iff];intro hc
  rw [List.contains_iff_mem] at hc
  rcases List.mem_append.1 hc with hc | hc
  · exact hp _ hc List.mem_cons_self
  · exact (List.nodup_cons.1 hn).1 (effLab_mem hc)
 induction h with
 | nil=>intro ls pre preH _ _ _ _ _ _ i o v x ho;simp at ho
 | @free o l F H v V ks Hs F' H' hg hq hr he r ih =>
  intro ls pre preH hll hnd hlen hpre hlk hl i o' v' x ho' hv' hx
  obtain ⟨x0,ls,rfl⟩:∃ x0 r,ls=x0 :: r:=by cases ls with | nil=>simp at hll | cons a b=>exact ⟨a,b,rfl⟩
  have hlks:∀ t∈o.looks,F.get t=F'.get t:=fun t ht=>by
   rw [TRn.get r t (fun o' ho'=>by obtain ⟨k,hk⟩:=List.getElem?_of_mem ho';exact hl 0 o rfl t ht (k+1) o' (by omega) (by simpa using hk)),AFr.get_set,if_neg (hl 0 o rfl t ht 0 o (Nat.le_refl _) rfl)]
  cases i with
  | zero =>
   simp at ho' hv' hx;subst ho' hv' hx
   refine .free (by rw [← ye hlks];exact hg) (fun H2=>⟨true,?_,rfl⟩) (nocont (ls:=ls) (ks:=ks) hpre hnd)
   rw [← yG (xX hlks)];exact free_any hq hr he H2
  | succ i =>
   exact ih ls pre preH (by simpa using hll) (List.nodup_cons.1 hnd).2 hlen (fun y hy hm=>hpre y hy (List.mem_cons_of_mem _ hm)) hlk (fun i o'' ho t ht k o3 hk ho3=>hl (i+1) o'' (by simpa using ho) t ht (k+1) o3 (by omega) (by simpa using ho3)) i o' v' x (by simpa using ho') (by simpa using hv') (by simpa using hx)
 | @look o l F H v V ks Hs F' H' b hg hr he r ih =>
  intro ls pre preH hll hnd hlen hpre hlk hl i o' v' x ho' hv' hx
  obtain ⟨x0,ls,rfl⟩:∃ x0 r,ls=x0 :: r:=by cases ls with | nil=>simp at hll | cons a b=>exact ⟨a,b,rfl⟩
  have hlks:∀ t∈o.looks,F.get t=F'.get t:=fun t ht=>by
   rw [TRn.get r t (fun o' ho'=>by obtain ⟨k,hk⟩:=List.getElem?_of_mem ho';exact hl 0 o rfl t ht (k+1) o' (by omega) (by simpa using hk)),AFr.get_set,if_neg (hl 0 o rfl t ht 0 o (Nat.le_refl _) rfl)]
  cases i with
  | zero =>
   simp at ho' hv' hx;subst ho' hv' hx
   refine .look (by rw [← ye hlks];exact hg) (fun j H2 hj hp=>⟨true,?_,rfl⟩) (nocont (ls:=ls) (ks:=ks) hpre hnd)
   rw [← yG (xX hlks)]
   exact look_any hr he (lookAll_spec hlk.1 j H2 hj (by simpa using hp))
  | succ i =>
   exact ih ls pre preH (by simpa using hll) (List.nodup_cons.1 hnd).2 hlen (fun y hy hm=>hpre y hy (List.mem_cons_of_mem _ hm)) hlk.2 (fun i o'' ho t ht k o3 hk ho3=>hl (i+1) o'' (by simpa using ho) t ht (k+1) o3 (by omega) (by simpa using ho3)) i o' v' x (by simpa using ho') (by simpa using hv') (by simpa using hx)
 | @skip o l F H V ks Hs F' H' hg r ih =>
  intro ls pre preH hll hnd hlen hpre hlk hl i o' v' x ho' hv' hx
  obtain ⟨x0,ls,rfl⟩:∃ x0 r,ls=x0 :: r:=by cases ls with | nil=>simp at hll | cons a b=>exact ⟨a,b,rfl⟩
  have hlks:∀ t∈o.looks,F.get t=F'.get t:=fun t ht=>by
   rw [TRn.get r t (fun o' ho'=>by obtain ⟨k,hk⟩:=List.getElem?_of_mem ho';exact hl 0 o rfl t ht (k+1) o' (by omega) (by simpa using hk)),AFr.get_set,if_neg (hl 0 o rfl t ht 0 o (Nat.le_refl _) rfl)]
  cases i with
  | zero =>
   simp at ho' hv' hx;subst ho' hv' hx
   exact .skip (.inl (by rw [← ye hlks];exact hg)) (.inl rfl) (nocont (ls:=ls) (ks:=ks) hpre hnd)
  | succ i =>
   exact ih ls pre preH (by simpa using hll) (List.nodup_cons.1 hnd).2 hlen (fun y hy hm=>hpre y hy (List.mem_cons_of_mem _ hm)) hlk (fun i o'' ho t ht k o3 hk ho3=>hl (i+1) o'' (by simpa using ho) t ht (k+1) o3 (by omega) (by simpa using ho3)) i o' v' x (by simpa using ho') (by simpa using hv') (by simpa using hx)
 | @skipq o l F H V ks Hs F' H' hg r ih =>
  intro ls pre preH hll hnd hlen hpre hlk hl i o' v' x ho' hv' hx
  obtain ⟨x0,ls,rfl⟩:∃ x0 r,ls=x0 :: r:=by cases ls with | nil=>simp at hll | cons a b=>exact ⟨a,b,rfl⟩
  have hlks:∀ t∈o.looks,F.get t=F'.get t:=fun t ht=>by
   rw [TRn.get r t (fun o' ho'=>by obtain ⟨k,hk⟩:=List.getElem?_of_mem ho';exact hl 0 o rfl t ht (k+1) o' (by omega) (by simpa using hk)),AFr.get_set,if_neg (hl 0 o rfl t ht 0 o (Nat.le_refl _) rfl)]
  cases i with
  | zero =>
   simp at ho' hv' hx;subst ho' hv' hx
   exact .skip (looks_skip (fun t ht=>(hlks t ht).symm) hg) (.inr rfl) (nocont (ls:=ls) (ks:=ks) hpre hnd)
  | succ i =>
   exact ih ls pre preH (by simpa using hll) (List.nodup_cons.1 hnd).2 hlen (fun y hy hm=>hpre y hy (List.mem_cons_of_mem _ hm)) hlk (fun i o'' ho t ht k o3 hk ho3=>hl (i+1) o'' (by simpa using ho) t ht (k+1) o3 (by omega) (by simpa using ho3)) i o' v' x (by simpa using ho') (by simpa using hv') (by simpa using hx)
 | @pcall o l F H v V ks Hs F' H' f xs args hg ho ha hc hcl r ih =>
  intro ls pre preH hll hnd hlen hpre hlk hl i o' v' x ho' hv' hx
  obtain ⟨x0,ls,rfl⟩:∃ x0 r,ls=x0 :: r:=by cases ls with | nil=>simp at hll | cons a b=>exact ⟨a,b,rfl⟩
  have hlks:∀ t∈o.looks,F.get t=F'.get t:=fun t ht=>by
   rw [TRn.get r t (fun o' ho'=>by obtain ⟨k,hk⟩:=List.getElem?_of_mem ho';exact hl 0 o rfl t ht (k+1) o' (by omega) (by simpa using hk)),AFr.get_set,if_neg (hl 0 o rfl t ht 0 o (Nat.le_refl _) rfl)]
  cases i with
  | zero =>
   simp at ho' hv' hx;subst ho' hv' hx
   refine .call f xs args (by rw [← ye hlks];exact hg) ho ?_ hc.1 (fun j H2 hj hp=>hc.lift hcl) (nocont (ls:=ls) (ks:=ks) hpre hnd)
   rw [← ha];exact (List.map_congr_left fun x hx=>xX hlks x (by rw [ho];exact hx)).symm
  | succ i =>
   exact ih ls pre preH (by simpa using hll) (List.nodup_cons.1 hnd).2 hlen (fun y hy hm=>hpre y hy (List.mem_cons_of_mem _ hm)) hlk (fun i o'' ho t ht k o3 hk ho3=>hl (i+1) o'' (by simpa using ho) t ht (k+1) o3 (by omega) (by simpa using ho3)) i o' v' x (by simpa using ho') (by simpa using hv') (by simpa using hx)
 | @bslf o l F H V ks Hs F' H' kk xs es hg ho ha hf r ih =>
  intro ls pre preH hll hnd hlen hpre hlk hl i o' v' x ho' hv' hx
  obtain ⟨x0,ls,rfl⟩:∃ x0 r,ls=x0 :: r:=by cases ls with | nil=>simp at hll | cons a b=>exact ⟨a,b,rfl⟩
  have hlks:∀ t∈o.looks,F.get t=F'.get t:=fun t ht=>by
   rw [TRn.get r t (fun o' ho'=>by obtain ⟨k,hk⟩:=List.getElem?_of_mem ho';exact hl 0 o rfl t ht (k+1) o' (by omega) (by simpa using hk)),AFr.get_set,if_neg (hl 0 o rfl t ht 0 o (Nat.le_refl _) rfl)]
  cases i with
  | zero =>
   simp at ho' hv' hx;subst ho' hv' hx
   refine .bslf kk xs es (by rw [← ye hlks];exact hg) ho ?_ hf rfl (nocont (ls:=ls) (ks:=ks) hpre hnd)
   rw [← ha];exact (List.map_congr_left fun x hx=>xX hlks x (by rw [ho];exact hx)).symm
  | succ i =>
   exact ih ls pre preH (by simpa using hll) (List.nodup_cons.1 hnd).2 hlen (fun y hy hm=>hpre y hy (List.mem_cons_of_mem _ hm)) hlk (fun i o'' ho t ht k o3 hk ho3=>hl (i+1) o'' (by simpa using ho) t ht (k+1) o3 (by omega) (by simpa using ho3)) i o' v' x (by simpa using ho') (by simpa using hv') (by simpa using hx)
 | @eff o l F H v H1 V ks Hs F' H' hg he r ih =>
  intro ls pre preH hll hnd hlen hpre hlk hl i o' v' x ho' hv' hx
  obtain ⟨x0,ls,rfl⟩:∃ x0 r,ls=x0 :: r:=by cases ls with | nil=>simp at hll | cons a b=>exact ⟨a,b,rfl⟩
  have hlks:∀ t∈o.looks,F.get t=F'.get t:=fun t ht=>by
   rw [TRn.get r t (fun o' ho'=>by obtain ⟨k,hk⟩:=List.getElem?_of_mem ho';exact hl 0 o rfl t ht (k+1) o' (by omega) (by simpa using hk)),AFr.get_set,if_neg (hl 0 o rfl t ht 0 o (Nat.le_refl _) rfl)]
  have e1:pre++xh (x0 :: ls) (.eff :: ks)=(pre++[x0])++xh ls ks:=by simp [xh]
  have e2:preH++H :: H1 :: Hs=(preH++[H])++H1 :: Hs:=by simp
  cases i with
  | zero =>
   simp at ho' hv' hx;subst ho' hv' hx
   exact .eff pre.length H H1 true (by rw [← ye hlks];exact hg) (by simp [xh]) (by rw [← hlen];simp) (by rw [← hlen];simp) (by rw [← yG (xX hlks)];exact he) rfl
  | succ i =>
   have:=ih ls (pre++[x0]) (preH++[H]) (by simpa using hll) (List.nodup_cons.1 hnd).2 (by simp [hlen]) (fun y hy hm=>by
    rcases List.mem_append.1 hy with hy | hy
    · exact hpre y hy (List.mem_cons_of_mem _ hm)
    · simp at hy;subst hy;exact (List.nodup_cons.1 hnd).1 hm) (by rw [← e1,← e2];exact hlk) (fun i o'' ho t ht k o3 hk ho3=>hl (i+1) o'' (by simpa using ho) t ht (k+1) o3 (by omega) (by simpa using ho3)) i o' v' x (by simpa using ho') (by simpa using hv') (by simpa using hx)
   rw [← e1,← e2] at this;exact this
 | @ecall o l F H v H1 V ks Hs F' H' f xs args hg ho ha hen hc r ih =>
  intro ls pre preH hll hnd hlen hpre hlk hl i o' v' x ho' hv' hx
  obtain ⟨x0,ls,rfl⟩:∃ x0 r,ls=x0 :: r:=by cases ls with | nil=>simp at hll | cons a b=>exact ⟨a,b,rfl⟩
  have hlks:∀ t∈o.looks,F.get t=F'.get t:=fun t ht=>by
   rw [TRn.get r t (fun o' ho'=>by obtain ⟨k,hk⟩:=List.getElem?_of_mem ho';exact hl 0 o rfl t ht (k+1) o' (by omega) (by simpa using hk)),AFr.get_set,if_neg (hl 0 o rfl t ht 0 o (Nat.le_refl _) rfl)]
  have e1:pre++xh (x0 :: ls) (.eff :: ks)=(pre++[x0])++xh ls ks:=by simp [xh]
  have e2:preH++H :: H1 :: Hs=(preH++[H])++H1 :: Hs:=by simp
  cases i with
  | zero =>
   simp at ho' hv' hx;subst ho' hv' hx
   refine .ecall pre.length H H1 f xs args (by rw [← ye hlks];exact hg) (by simp [xh]) (by rw [← hlen];simp) (by rw [← hlen];simp) ho ?_ hen hc
   rw [← ha];exact (List.map_congr_left fun x hx=>xX hlks x (by rw [ho];exact hx)).symm
  | succ i =>
   have:=ih ls (pre++[x0]) (preH++[H]) (by simpa using hll) (List.nodup_cons.1 hnd).2 (by simp [hlen]) (fun y hy hm=>by
    rcases List.mem_append.1 hy with hy | hy
    · exact hpre y hy (List.mem_cons_of_mem _ hm)
    · simp at hy;subst hy;exact (List.nodup_cons.1 hnd).1 hm) (by rw [← e1,← e2];exact hlk) (fun i o'' ho t ht k o3 hk ho3=>hl (i+1) o'' (by simpa using ho) t ht (k+1) o3 (by omega) (by simpa using ho3)) i o' v' x (by simpa using ho') (by simpa using hv') (by simpa using hx)
   rw [← e1,← e2] at this;exact this
def rd (ops:List AOper):List Nat→List Nat→Bool
 | S,[]=>(List.range ops.length).all fun i=>S.contains i
 | S,i :: l=>!S.contains i && (match ops[i]? with | some o=>o.after.all fun k=>S.contains k | none=>false) && rd ops (i :: S) l
theorem runsB_spec {ops:List AOper}:∀ {l S:List Nat},rd ops S l=true→Runs ops S l
 | [],S,h=>fun i hi=>by
  have:=List.all_eq_true.1 h i (List.mem_range.2 hi)
  simpa using this
 | i :: l,S,h=>by
  simp only [rd,Bool.and_eq_true] at h
  obtain ⟨⟨h1,h2⟩,h3⟩:=h
  refine ⟨by simpa using h1,?_,runsB_spec h3⟩
  split at h2
  · rename_i o ho
    exact ⟨o,ho,fun k hk=>by have:=List.all_eq_true.1 h2 k hk;simpa using this⟩
  · cases h2
section
variable {E:Env} {n N:Nat} {Q:zL→AFr→zz→Prop} {k:List KI} {F:AFr} {H:zz}
theorem Runs.mem_all {ops:List AOper}:∀ {l S:List Nat},Runs ops S l→∀ i,i<ops.length→i∈S∨i∈l
 | [],S,h,i,hi=>.inl (h i hi)
 | j :: l,S,h,i,hi=>by
  rcases Runs.mem_all h.2.2 i hi with h | h
  · rcases List.mem_cons.1 h with rfl | h
    · exact .inr List.mem_cons_self
    · exact .inl h
  · exact .inr (List.mem_cons_of_mem _ h)
theorem Runs.lt {ops:List AOper}:∀ {l S:List Nat},Runs ops S l→∀ i∈l,i<ops.length
 | [],S,h,i,hi=>by cases hi
 | j :: l,S,h,i,hi=>by
  rcases List.mem_cons.1 hi with rfl | hi
  · obtain ⟨o,ho,_⟩:=h.2.1;exact (List.getElem?_eq_some_iff.1 ho).1
  · exact Runs.lt h.2.2 i hi
theorem Runs.before {ops:List AOper} {i k:Nat} (ha:Anc ops k i):∀ {l S:List Nat},Runs ops S l→rq ops S→∀ (p q:Nat),l[p]? = some i→l[q]? = some k→q<p
 | [],S,h,hs,p,q,hp,hq=>by simp at hp
 | j :: l,S,h,hs,p,q,hp,hq=>by
  have hs':rq ops (j :: S):=by
   intro x hx o ho y hy
   rcases List.mem_cons.1 hx with rfl | hx
   · obtain ⟨o',ho',hd⟩:=h.2.1
     rw [ho] at ho';cases ho'
     exact List.mem_cons_of_mem _ (hd y hy)
   · exact List.mem_cons_of_mem _ (hs x hx o ho y hy)
  cases p with
  | zero =>
   simp at hp;subst hp
   -- then k lies in S, so it does not come again
   have hk:k∈S:=Anc.mem hs ha h.2.1
   cases q with
   | zero=>simp at hq;subst hq;exact absurd hk h.1
   | succ q=>exact absurd (List.mem_cons_of_mem _ hk) (Runs.notin h.2.2 k (List.mem_of_getElem? (by simpa using hq)))
  | succ p =>
   cases q with
   | zero=>omega
   | succ q =>
    have:=Runs.before ha h.2.2 hs' p q (by simpa using hp) (by simpa using hq)
    omega
theorem trp_draw {ops:List AOper} (hm:E.P.follows .mixedOrders=true) (effs:List Nat) (hwf:uZ ops (vL ops [])=true) (hlt:effs.all (Nat.blt · ops.length)=true) (hnd:effs.Nodup)
 (h:∀ chain∈xY (vL ops []) effs.length effs,∃ ord,rd ops [] ord=true∧TR E (ord.map fun i=>ops.getD i default) F H (fun ks Hs F' H'=>xh ord ks=chain∧vb (vL ops []) chain (H :: Hs) ord ks∧zl E n N Q (.out .normal) k F' H')):zl E n N Q (.code (.draw ops)) k F H:=by
 have wf:=wfDraw_spec hwf
 have hB:∀ i k,((vL ops []).getD i 0).testBit k=true→Anc ops k i:=by
  have:=uJ ops [] [] rfl (fun i k hk=>by simp at hk)
  simpa using this
 refine AWP.weakEnd (awp_draw hm effs hwf hlt hnd fun chain hch=>?_)
 obtain ⟨ord,hruns,V,ks,Hs,F',H',ht,h1,h2,h3⟩:=h chain hch
 have hr:=runsB_spec hruns
 have hnd':=Runs.nodup hr
 have hall:∀ i,i<ops.length→∃ p,ord[p]? = some i:=fun i hi=>by
  rcases Runs.mem_all hr i hi with h | h
  · cases h
  · exact List.getElem?_of_mem h
 obtain ⟨m1,_,m3⟩:=ht.kinds3
 have hget:∀ {p i:Nat} {o:AOper},ord[p]? = some i→ops[i]? = some o→(ord.map fun i=>ops.getD i default)[p]? = some o:=by
  intro p i o hp ho
  rw [List.getElem?_map,hp];simp [List.getD_eq_getElem?_getD,ho]
 have hget':∀ {p:Nat} {o:AOper},(ord.map fun i=>ops.getD i default)[p]? = some o→∃ i,ord[p]? = some i∧ops[i]? = some o:=by
  intro p o hp
  rw [List.getElem?_map] at hp
  obtain ⟨i,hi,rfl⟩:=Option.map_eq_some_iff.1 hp
  have hlt:=Runs.lt hr i (List.mem_of_getElem? hi)
  exact ⟨i,hi,by simp [List.getD_eq_getElem?_getD,hlt]⟩
 have hVl:V.length=ord.length:=by rw [ht.len.1,List.length_map]
 have hlook:∀ (i:Nat) o,(ord.map fun i=>ops.getD i default)[i]? = some o→∀ t∈o.looks,∀ (k:Nat) o',i≤k→(ord.map fun i=>ops.getD i default)[k]? = some o'→o'.dst≠some t:=by
  intro p o hp t ht' q o' hpq hq hd
  obtain ⟨i,e1,e2⟩:=hget' hp
  obtain ⟨j,e3,e4⟩:=hget' hq
  have:=Runs.before (hB i j (wf.look i j o o' t e2 e4 ht' hd)) hr (fun x hx=>by cases hx) p q e1 e3
  omega
 -- the values by number
 let V':List AV:=(List.range ops.length).map fun i=>V.getD (ord.idxOf i) .undef
 have hV':∀ {p i:Nat},ord[p]? = some i→V'[i]? = V[p]?:=by
  intro p i hp
  have hlt:=Runs.lt hr i (List.mem_of_getElem? hp)
  have hpl:p<ord.length:=(List.getElem?_eq_some_iff.1 hp).1
  have hidx:ord.idxOf i=p:=by
   have hm:=List.mem_of_getElem? hp
   have h1:ord[ord.idxOf i]? = some i:=by
    have hl:=List.idxOf_lt_length_iff.2 hm
    rw [List.getElem?_eq_getElem hl,List.getElem_idxOf hl]
   exact (List.getElem?_inj (List.idxOf_lt_length_iff.2 hm) hnd').1 (h1.trans hp.symm)
  simp only [V',List.getElem?_map,List.getElem?_range hlt,Option.map_some,hidx]
  simp [List.getD_eq_getElem?_getD,hVl,hpl]
 have hF:∀ t,F'.get t=(uk F ops V').get t:=by
  intro t
  by_cases hx:∃ (i:Nat) (o:AOper),ops[i]? = some o∧o.dst=some t
  · obtain ⟨i,o,ho,hd⟩:=hx
    obtain ⟨p,hp⟩:=hall i (List.getElem?_eq_some_iff.1 ho).1
    have hpl:p<V.length:=by rw [hVl];exact (List.getElem?_eq_some_iff.1 hp).1
    have e1:V[p]? = some V[p]:=List.getElem?_eq_getElem hpl
    rw [ht.len.2,finF_some _ V F p o V[p] t (hget hp ho) e1 hd (fun q o' hq hd'=>by
     obtain ⟨j,e3,e4⟩:=hget' hq
     have:=wf.dst i j o o' t ho e4 hd hd'
     subst this
     exact (List.getElem?_inj (List.getElem?_eq_some_iff.1 e3).1 hnd').1 (e3.trans hp.symm))]
    rw [finF_some ops V' F i o V[p] t ho (by rw [hV' hp];exact e1) hd (fun q o' hq hd'=>wf.dst i q o o' t ho hq hd hd')]
  · rw [ht.len.2,vg _ V F t (fun p o hp hd=>by obtain ⟨i,_,e2⟩:=hget' hp;exact hx ⟨i,o,e2,hd⟩),vg ops V' F t (fun i o ho hd=>hx ⟨i,o,ho,hd⟩)]
 have hHs:Hs.length=chain.length:=by
  have key:∀ (ls:List Nat) (ks:List Kd),ls.length=ks.length→∀ i,(xh ls ks).length=(yY i ks).length:=by
   intro ls
   induction ls with
   | nil=>intro ks hk i;cases ks with | nil=>rfl | cons a b=>simp at hk
   | cons a b ih =>
    intro ks hk i
    cases ks with
    | nil=>simp at hk
    | cons x r =>
     have:=ih r (by simpa using hk)
     cases x<;>simp only [xh,yY,List.length_cons,this (i+1)]
  rw [← h1,key ord ks (by rw [m1,List.length_map]) 0]
  exact ht.kinds3.2.1 0
 refine ⟨V',H :: Hs,H',by simp [V'],by simp [hHs],rfl,fun i o v ho hv=>?_,by rw [← hHs];exact m3,F',fun t=>.inl (hF t),h3⟩
 obtain ⟨p,hp⟩:=hall i (List.getElem?_eq_some_iff.1 ho).1
 rw [hV' hp] at hv
 have:=ht.dopL (B:=vL ops []) ord [] [] (by simp) hnd' rfl (fun x hx=>by cases hx) (by simp only [List.nil_append];rw [h1];exact h2) hlook p o v i (hget hp ho) hv hp
 simp only [List.nil_append] at this
 rw [h1] at this
 exact DOp.congr hF this
end
end Go.Am
end
section
namespace Go.Am
def AllC (P:List Nat→Prop):List (List Nat)→Prop
 | []=>True
 | c :: r=>P c∧AllC P r
theorem AllC.mem {P:List Nat→Prop}:∀ {l:List (List Nat)},AllC P l→∀ c∈l,P c
 | [],_,c,h=>by cases h
 | x :: r,h,c,hc=>by
  rcases List.mem_cons.1 hc with rfl | hc
  · exact h.1
  · exact h.2.mem c hc
section
variable {E:Env} {n N:Nat} {Q:zL→AFr→zz→Prop} {k:List KI} {F:AFr} {H:zz}
theorem trp_drawE {ops:List AOper} (effs:List Nat) (chains:List (List Nat)) (F0:AFr) (H0:zz) (hm:E.P.follows .mixedOrders=true) (hwf:uZ ops (vL ops [])=true) (hlt:effs.all (Nat.blt · ops.length)=true) (hnd:effs.Nodup) (hch:xY (vL ops []) effs.length effs=chains)
 (hrest:zl E n N Q (.out .normal) k F0 H0)
 (h:AllC (fun chain=>∃ ord,rd ops [] ord=true∧TR E (ord.map fun i=>ops.getD i default) F H (fun ks Hs F' H'=>xh ord ks=chain∧vb (vL ops []) chain (H :: Hs) ord ks∧Ent E n N F' H' F0 H0)) chains):zl E n N Q (.code (.draw ops)) k F H:=by
 refine AWP.entEnd (trp_draw (k:=[]) hm effs hwf hlt hnd (Q:=fun e F' H'=>∃ F2 H2,Ent E n N F' H' F2 H2∧uo E n N Q k e F2 H2) fun chain hc=>?_)
 rw [hch] at hc
 obtain ⟨ord,h1,V,ks,Hs,F',H',h2,h3,h4,h5⟩:=h.mem chain hc
 exact ⟨ord,h1,V,ks,Hs,F',H',h2,h3,h4,F0,H0,h5,hrest⟩
theorem zX {ops:List AOper} {B:List Nat} (hm:E.P.follows .mixedOrders=true) (hB:vL ops []=B) (hwf:uZ ops B=true) (h:TR E ops F H (fun ks Hs F' H'=>xY B (yY 0 ks).length (yY 0 ks)=[yY 0 ks]∧zJ B (yY 0 ks) (H :: Hs) 0 ks∧zl E n N Q (.out .normal) k F' H')):zl E n N Q (.code (.draw ops)) k F H:=by
 subst hB;exact tr_draw hm hwf h
end
end Go.Am
end
section
set_option maxRecDepth 20000
namespace Go.Am
open Go Go.Lib
section
variable {E:Env} {n N:Nat} {F:AFr} {H:zz}
theorem aops_ext {a:AOper} {rest:List AOper} {Q:AFr→zz→Prop} {f:FuncId} {xs:List Opd} {args:List AV} {v:AV} (hg:zH F a.guard=some true) (ho':a.op=.call f xs) (hargs:xs.map (·.ev E.G F)=args)
 (hE:∀ K w ys,HRep E K w H→VReps K H.length w args ys→∃ y,(callFunc f ys.toArray).run E.P w=.ok (.value y) w∧VRep K H.length w v y)
 (h:AOps E n N rest (F.set a.dst v) H Q):AOps E n N (a :: rest) F H Q:=by
 intro ops l hl K w tmps T ds k cs h1 h2 h3
 obtain ⟨i,l',o,rfl,ho,rfl,hl'⟩:=wr hl
 have hnb:(zI E.P n ops o).op≠.bad:=by rw [ho'];intro e;cases e
 obtain ⟨e1,e2,e3⟩:=wx hnb
 rw [e1] at ho' hnb
 have hw:=wU h2 e3 hg
 have hops:=tx h1 h2 (ρ:=(T.fr tmps ds (.inRegion ops (i :: l') :: k)).eval) (fun x=>Fc.eval_fr _ _ _ _ x)
 obtain ⟨c,hop,hcal,rfl⟩:=prepOp_call ho'
 have hvs:VReps K H.length w args (c.args.toList.map (T.fr tmps ds (.inRegion ops (i :: l') :: k)).eval):=by
  rw [← hargs]
  refine ⟨by simp,?_⟩
  have:=tY hops (xs:=c.args.toList)
  intro j x y hx hy
  exact this j x y (by simpa using hx) hy
 obtain ⟨y,hrunE,hv⟩:=hE K w _ h1 hvs
 have hrun:(execOp (T.fr tmps ds (.inRegion ops (i :: l') :: k)).eval o).run E.P w=.ok (.value y) w:=by
  have ha:(c.args.toList.map (T.fr tmps ds (.inRegion ops (i :: l') :: k)).eval).toArray=c.args.map (T.fr tmps ds (.inRegion ops (i :: l') :: k)).eval:=Array.ext' (by simp)
  rw [ha] at hrunE
  obtain ⟨callee,args',ts⟩:=c
  dsimp only at hcal ha hrunE
  subst hcal
  have hef:(T.fr tmps ds (.inRegion ops (i :: l') :: k)).eval (.func f)=.func (.func f) #[] #[]:=rfl
  simp [execOp,hop,resolve,hef,Deferred.ofValue,invoke]
  exact hrunE
 have hst:=st_op_value (cs:=cs) ho hw (w8 hnb) (.inl hrun)
 have hF:=wq (Ev.mv h1 (Ev.refl H.length K H w (Nat.le_refl _))) h2 hv o.dst (.inl e2)
 rw [yH] at h
 obtain ⟨F',H',K',w',t',q,a1,a2,a3,a4⟩:=h ops l' hl' K w _ T ds k cs h1 hF h3
 exact ⟨F',H',K',w',t',q,a1,a2,a3,.head hst a4⟩
inductive SlOf (b k:Nat):AV→Prop
 | sl (lo m:Nat):SlOf b k (.sl b k lo m)
 | slc (lo m c:Nat):SlOf b k (.slc b k lo m c)
theorem SlOf.inv {b k:Nat} {x:AV} (hs:SlOf b k x) {K:Ctx} {M:Nat} {w:World} {y:Value} (hv:VRep K M w x y) :
 y=.slice none 0 0∨(∃ a,y=.slice (some a) 0 0)∨∃ blk base lo len cap,y=.slice (some ⟨blk,base+lo * k,none⟩) len cap∧K.γ b=some (blk,base)∧len≤cap∧sizeAt w blk (base+(lo+cap) * k):=by
 cases hs with
 | sl lo m =>
  cases hv with
  | slnil=>exact .inl rfl
  | sl0 _ _ _ a=>exact .inr (.inl ⟨a,rfl⟩)
  | sl _ _ _ _ cap blk base hM hg hle hs=>exact .inr (.inr ⟨blk,base,lo,m,cap,rfl,hg,hle,hs⟩)
 | slc lo m c =>
  cases hv with
  | slc _ _ _ _ cap blk base hM hg hle hs=>exact .inr (.inr ⟨blk,base,lo,m,c,rfl,hg,hle,hs⟩)
theorem frozen_own {K:Ctx} {w:World} (hh:HRep E K w H) {b k blk base:Nat} {es:List AV} (hb:H[b]? = some (.arr k es)) (hg:K.γ b=some (blk,base)) :
 ∃ c ty,w.heap[blk]? = some (.cells c ty (0,0)):=by
 obtain ⟨c,cty,hheap,_⟩:=hh.arr hb hg
 exact ⟨c,cty,hheap⟩
theorem ov_shape (tS tR:TypeId) (a b:Addr) (la ca lb cb:Nat):∃ (S:TypeDesc→Sem Value) (R:Nat→Sem Value),Extern.SlicesOverlaps.overlaps #[tS,tS] #[tR] #[.slice (some a) la ca,.slice (some b) lb cb] =
 (underlying tS >>= fun d=>match d with
  | .slice e=>Go.sizeOf e >>= fun size=>if la=0∨lb=0∨size=0 then pure (Value.bool false) else R size
  | d=>S d):=⟨_,_,rfl⟩
theorem ov_shape0 (tS tR:TypeId) (o0 o1:Option Addr) (h:o0=none∨o1=none) (la ca lb cb:Nat):∃ (S:TypeDesc→Sem Value),Extern.SlicesOverlaps.overlaps #[tS,tS] #[tR] #[.slice o0 la ca,.slice o1 lb cb] =
 (underlying tS >>= fun d=>match d with
  | .slice e=>Go.sizeOf e >>= fun _=>pure (Value.bool false)
  | d=>S d):=by
 rcases h with rfl | rfl
 · cases o1<;>exact ⟨_,rfl⟩
 · cases o0<;>exact ⟨_,rfl⟩
theorem ovz {P:Program} {tS tR te:TypeId} {w:World} {o0 o1:Option Addr} {la ca lb cb:Nat} (hu:P.underlying tS=some (.slice te)) (hz:∀ w,(Go.sizeOf te).run P w=.ok (P.cellsOf te) w) (hz0:la=0∨lb=0):(Extern.SlicesOverlaps.overlaps #[tS,tS] #[tR] #[.slice o0 la ca,.slice o1 lb cb]).run P w=.ok (.bool false) w:=by
 have hz1:la=0∨lb=0∨P.cellsOf te=0:=by rcases hz0 with h | h;exact .inl h;exact .inr (.inl h)
 cases o0 with
 | none =>
  obtain ⟨S,hS⟩:=ov_shape0 tS tR none o1 (.inl rfl) la ca lb cb
  rw [hS];simp [run_underlying hu,hz]
 | some a=>cases o1 with
  | none =>
   obtain ⟨S,hS⟩:=ov_shape0 tS tR (some a) none (.inr rfl) la ca lb cb
   rw [hS];simp [run_underlying hu,hz]
  | some b =>
   obtain ⟨S,R,hS⟩:=ov_shape tS tR a b la ca lb cb
   rw [hS];simp [run_underlying hu,hz,hz1]
theorem overlaps_own {f:FuncId} {fn:Func} {tS tR te:TypeId} {ei:TypeInfo} (hf:E.P.funcs[f]? = some fn) (hname:(fn.name == "runtime.NumGoroutine")=false) (hb:fn.body.isNone=true) (hn:Extern.findNext fn=none)
 (he:Extern.find fn=some (Extern.SlicesOverlaps.overlaps #[tS,tS] #[tR])) (hu:E.P.underlying tS=some (.slice te)) (hi:E.P.info? te=some ei)
 {a b ka kb:Nat} {ea eb:List AV} {x0 x1:AV} (h0:SlOf a ka x0) (h1:SlOf b kb x1) (hab:a≠b) (hka:H[a]? = some (.arr ka ea)) (hkb:H[b]? = some (.arr kb eb)) (hkb0:0<kb) :
 ∀ K w ys,HRep E K w H→VReps K H.length w [x0,x1] ys→∃ y,(callFunc f ys.toArray).run E.P w=.ok (.value y) w∧VRep K H.length w (.val (.bool false)) y:=by
 intro K w ys hh hv
 refine ⟨.bool false,?_,.val _ (by intro cs;simp)⟩
 obtain ⟨hl,hv⟩:=hv
 obtain ⟨y0,y1,rfl⟩:∃ y0 y1,ys=[y0,y1]:=by
  match ys,hl with
  | [y0,y1],_=>exact ⟨y0,y1,rfl⟩
 have v0:=hv 0 x0 y0 rfl rfl
 have v1:=hv 1 x1 y1 rfl rfl
 rw [run_callFunc_extern hf hname hb hn he]
 have hz:∀ w,(Go.sizeOf te).run E.P w=.ok (E.P.cellsOf te) w:=fun w=>run_sizeOf w hi
 suffices hs:(Extern.SlicesOverlaps.overlaps #[tS,tS] #[tR] #[y0,y1]).run E.P w=.ok (.bool false) w by
  show Result.andThen ((Extern.SlicesOverlaps.overlaps #[tS,tS] #[tR] #[y0,y1]).run E.P w) _=_
  rw [hs];rfl
 have hsl:∀ (o0 o1:Option Addr) (la ca lb cb:Nat),y0=.slice o0 la ca→y1=.slice o1 lb cb→(la=0∨lb=0∨∃ blk0 off0 blk1 off1,o0=some ⟨blk0,off0,none⟩∧o1=some ⟨blk1,off1,none⟩∧blk0≠blk1 ∧
  (∃ c ty,w.heap[blk0]? = some (.cells c ty (0,0)))∧∃ c ty,w.heap[blk1]? = some (.cells c ty (0,0))∧c.size≠0)→(Extern.SlicesOverlaps.overlaps #[tS,tS] #[tR] #[y0,y1]).run E.P w=.ok (.bool false) w:=by
  rintro o0 o1 la ca lb cb rfl rfl hc
  have hzero:(la=0∨lb=0)→(Extern.SlicesOverlaps.overlaps #[tS,tS] #[tR] #[.slice o0 la ca,.slice o1 lb cb]).run E.P w=.ok (.bool false) w:=fun h=>ovz hu hz h
  rcases hc with h | h | ⟨blk0,off0,blk1,off1,rfl,rfl,hne,⟨c0,ty0,g0⟩,c1,ty1,g1,hsz⟩
  · exact hzero (.inl h)
  · exact hzero (.inr h)
  · refine Go.Lib.run_overlaps_apart w tS tR te hu _ hz ⟨blk0,off0,none⟩ ⟨blk1,off1,none⟩ la ca lb cb hne ty0 ty1 c0.size c1.size ?_ ?_ hsz ?_ ?_
    · simp [World.shape?,g0]
    · simp [World.shape?,g1]
    · simp [World.frozen?,g0]
    · simp [World.frozen?,g0]
 rcases h0.inv v0 with rfl | ⟨a0,rfl⟩ | ⟨blk0,base0,lo0,len0,cap0,rfl,hg0,hle0,hs0⟩
 · rcases h1.inv v1 with rfl | ⟨a1,rfl⟩ | ⟨blk1,base1,lo1,len1,cap1,rfl,hg1,hle1,hs1⟩<;>exact hsl _ _ _ _ _ _ rfl rfl (.inl rfl)
 · rcases h1.inv v1 with rfl | ⟨a1,rfl⟩ | ⟨blk1,base1,lo1,len1,cap1,rfl,hg1,hle1,hs1⟩<;>exact hsl _ _ _ _ _ _ rfl rfl (.inl rfl)
 · rcases h1.inv v1 with rfl | ⟨a1,rfl⟩ | ⟨blk1,base1,lo1,len1,cap1,rfl,hg1,hle1,hs1⟩
   · exact hsl _ _ _ _ _ _ rfl rfl (.inr (.inl rfl))
   · exact hsl _ _ _ _ _ _ rfl rfl (.inr (.inl rfl))
   · refine hsl _ _ _ _ _ _ rfl rfl ?_
     by_cases hz0:len1=0
     · exact .inr (.inl hz0)
     · refine .inr (.inr ⟨_,_,_,_,rfl,rfl,?_,frozen_own hh hka hg0,?_⟩)
       · rintro rfl
         exact hab (hh.inj a b _ _ _ _ _ hka hkb trivial trivial hg0 hg1)
       · obtain ⟨c1,ty1,g1⟩:=frozen_own hh hkb hg1
         refine ⟨c1,ty1,g1,?_⟩
         obtain ⟨c2,ty2,fz2,g2,hle⟩:=hs1
         rw [g1] at g2;cases g2
         have:0<(lo1+cap1) * kb:=Nat.mul_pos (by omega) hkb0
         omega
theorem on_ext {k:List KI} {Q:zL→AFr→zz→Prop} {o:AOper} {l:List AOper} {f:FuncId} {xs:List Opd} {args:List AV} {v:AV} (hg:o.guard=none) (ho:o.op=.call f xs) (ha:xs.map (·.ev E.G F)=args)
 (hE:∀ K w ys,HRep E K w H→VReps K H.length w args ys→∃ y,(callFunc f ys.toArray).run E.P w=.ok (.value y) w∧VRep K H.length w v y)
 (h:zl E n N Q (.ops l) k (F.set o.dst v) H):zl E n N Q (.ops (o :: l)) k F H :=
 aops_ext (by rw [hg];rfl) ho ha hE h
theorem ent_trunc {b k m:Nat} {es:List AV} (hb:H[b]? = some (.arr k es)) (hN:N≤H.length):Ent E n N F H F (H.set b (.arr k (es.take m))):=by
 intro K w tmps h1 h2 h3
 have ho:=h1.obj b _ hb
 cases hg:K.γ b with
 | none =>
  rw [hg] at ho
  cases ho with
  | arr0 =>
   have he:H.set b (.arr k (([]:List AV).take m))=H:=by
    apply List.ext_getElem?
    intro i
    rw [List.getElem?_set]
    split
    · rename_i hbi;subst hbi;rw [hb];simp [(List.getElem?_eq_some_iff.1 hb).1]
    · rfl
   rw [he]
   exact ⟨K,h1,h2,(Ev.refl H.length K H w (Nat.le_refl _)).mono hN⟩
 | some g =>
  obtain ⟨blk,base⟩:=g
  obtain ⟨c,cty,hheap,hck,hl⟩:=h1.arr hb hg
  have hH:=h1.touch (o':=.arr k (es.take m)) hb trivial hg (w':=w) ⟨fun _ _=>rfl,rfl,fun b c ty fz h=>⟨c,fz,h,rfl⟩,fun b r h=>⟨r,h⟩,rfl,rfl⟩ trivial (fun mv=>by
   refine .arr _ _ _ _ _ _ hheap (fun i e he=>?_) (fun i e he=>?_)
   · rw [List.getElem?_take] at he;split at he
     · exact hck i e he
     · cases he
   · rw [List.getElem?_take] at he;split at he
     · exact hl i e he
     · cases he)
  obtain ⟨hh2,ev2⟩:=hH
  exact ⟨K,hh2,by rw [List.length_set];exact h2,ev2.mono hN⟩
theorem ent_unslc (t:Nat) {b k lo m c:Nat} (hx:F.get t=.slc b k lo m c):Ent E n N F H ((t,.sl b k lo m) :: F) H:=by
 intro K w tmps h1 h2 h3
 refine ⟨K,h1,⟨h2.1,fun u=>?_⟩,Ev.refl _ _ _ _ h3⟩
 have e0:=AFr.get_set F (some t) (.sl b k lo m) u
 simp only [AFr.set] at e0
 rw [e0]
 split
 · rename_i heq
   cases heq
   have hv:=h2.2 t
   rw [hx] at hv
   generalize tmps.getD t undef=y at hv ⊢
   cases hv with
   | slc _ _ _ _ cap blk base hM hg hle hs=>exact .sl _ _ _ _ _ blk base hM hg hle hs
 · exact h2.2 u
end
end Go.Am
end
section
namespace Go.Am
open Go Go.Lib
section
variable {E:Env} {F:AFr} {H:zz} {K:List Kd→List zz→AFr→zz→Prop}
theorem zn {dst:Option Nat} {op:AOp} {after:List Nat} {guard:Option (Nat × Bool)} {l:List AOper} (hg:zH F guard=some true) (h:TR E (⟨dst,op,after,none⟩ :: l) F H K):TR E (⟨dst,op,after,guard⟩ :: l) F H K:=by
 obtain ⟨V,ks,Hs,F',H',ht,hk⟩:=h
 refine ⟨V,ks,Hs,F',H',?_,hk⟩
 cases ht with
 | free h1 hq hr he r=>exact .free (o:=⟨dst,op,after,guard⟩) hg hq hr he r
 | look h1 hr he r=>exact .look (o:=⟨dst,op,after,guard⟩) hg hr he r
 | skip h1 r=>cases h1
 | skipq h1 r=>rcases h1 with h1 | ⟨d,b,h1,_⟩<;>cases h1
 | pcall f xs args h1 ho ha hc hcl r=>exact .pcall (o:=⟨dst,op,after,guard⟩) f xs args hg ho ha hc hcl r
 | bslf kk xs es h1 ho ha hf r=>exact .bslf (o:=⟨dst,op,after,guard⟩) kk xs es hg ho ha hf r
 | eff h1 he r=>exact .eff (o:=⟨dst,op,after,guard⟩) hg he r
 | ecall f xs args h1 ho ha hen hc r=>exact .ecall (o:=⟨dst,op,after,guard⟩) f xs args hg ho ha hen hc r
end
end Go.Am
end
section
namespace Go.Am
theorem closed_agg (cs:List AV):(AV.agg cs).closed=AV.closedL cs:=rfl
theorem closed_v (v:Value):(AV.val v).closed=true:=rfl
theorem PCall.weak {E:Env} {f:FuncId} {args args':List AV} {v:AV} (h:PCall E f args' v) (hw:WkL 0 args args'):PCall E f args v:=by
 refine ⟨h.1,fun K w ys hh hv=>h.2 K w ys hh ?_⟩
 obtain ⟨hl,hc⟩:=hw.spec
 refine ⟨hl ▸ hv.1,fun i x' y hx hy=>?_⟩
 obtain ⟨x,hx0⟩:∃ x,args[i]? = some x:=⟨_,List.getElem?_eq_getElem (by have:=(List.getElem?_eq_some_iff.1 hx).1;omega)⟩
 exact (hc i x x' hx0 hx).rep (hv.2 i x y hx0 hy)
end Go.Am
end
section
namespace Go.Am
theorem ACall.at {E:Env} {f:FuncId} {args args':List AV} {Hl H1l H H1:zz} {v1 v:AV} (L:List Nat) (hc:ACall E f args Hl fun v' H'=>v'=v1∧H'=H1l) (hnd:L.Nodup) (hlt:∀ x∈L,x<H.length)
 (hHl:Hl=L.map fun x=>(H.getD x .dead).sub (wD L)) (hargs:args=args'.map (AV.sub (wD L))) (hv:v1.sub (td L H.length)=v) (hH:x8 H L H1l=H1) (hx:sQ Hl=true:=by rfl) :
 ACall E f args' H fun v' H'=>v'=v∧H'=H1:=by
 refine ACall.mono (ACall.frame hc (H:=H) (args':=args') L hnd hlt hHl hargs hx) ?_
 rintro _ _ ⟨v0,H',⟨rfl,rfl⟩,h2,rfl,rfl⟩
 exact ⟨hv,hH⟩
section
variable {E:Env} {n N:Nat} {Q:zL→AFr→zz→Prop} {F0:AFr} {H0:zz}
end
end Go.Am
end
section
namespace Go.Am
section
variable {E:Env} {n N:Nat} {Q:zL→AFr→zz→Prop} {k:List KI} {F:AFr} {H:zz}
theorem yK {o:AOper} {l:List AOper} {x:Opd} {xs:List Opd} {f:FuncId} {cs args:List AV} {v:AV} (hg:o.guard=none) (ho:o.op=.callv x xs) (hf:x.ev E.G F=.fn f cs) (ha:xs.map (·.ev E.G F)++cs=args) (hc:PCall E f args v) (hcl:AV.closedL args=true)
 (h:zl E n N Q (.ops l) k (F.set o.dst v) H):zl E n N Q (.ops (o :: l)) k F H :=
 on_callv (R:=fun v' H'=>v'=v∧H'=H) hg ho hf rfl ⟨hc.1,by rw [ha];exact hc.lift hcl⟩ (by rintro _ _ ⟨rfl,rfl⟩;exact h)
end
def Keeps (o:AObj):Prop:=∀ σ:Nat→Sub,(∀ i,i<10→σ i=.to i)→o.sub σ=o
theorem Keeps.dead : Keeps .dead:=fun _ _=>rfl
theorem on_fz10 {E:Env} {n:Nat} {Q:zL→AFr→zz→Prop} {k:List KI} {F F':AFr} {l:List AOper} {o0 o1 o2 o3 o4 o5 o6 o7 o8 o9:AObj} {cs:List AV} (hb:∀ o∈[o0,o1,o2,o3,o4,o5,o6,o7,o8,o9],Keeps o) (hcl:AV.closedL cs=true)
 (hF:FWk 10 (ofL [.to 0,.to 1,.to 2,.to 3,.to 4,.to 5,.to 6,.to 7,.to 8,.to 9,.icells cs]) F F') (h:zl E n 8 Q (.ops l) k F' [o0,o1,o2,o3,o4,o5,o6,o7,o8,o9]):zl E n 8 Q (.ops l) k F [o0,o1,o2,o3,o4,o5,o6,o7,o8,o9,.cells cs]:=by
 have hs:∀ i,i<10→ofL [.to 0,.to 1,.to 2,.to 3,.to 4,.to 5,.to 6,.to 7,.to 8,.to 9,.icells cs] i=.to i:=by
  intro i hi
  match i,hi with
  | 0,_ | 1,_ | 2,_ | 3,_ | 4,_ | 5,_ | 6,_ | 7,_ | 8,_ | 9,_=>rfl
 refine wW (F':=F') (H':=[o0,o1,o2,o3,o4,o5,o6,o7,o8,o9]) (tQ [.to 0,.to 1,.to 2,.to 3,.to 4,.to 5,.to 6,.to 7,.to 8,.to 9,.icells cs] [some 0,some 1,some 2,some 3,some 4,some 5,some 6,some 7,some 8,some 9] ⟨rfl,rfl,rfl,rfl,rfl,rfl,rfl,rfl,trivial⟩ (by simp) (by simp)
  ⟨⟨by simp,rfl⟩,⟨by simp,rfl⟩,⟨by simp,rfl⟩,⟨by simp,rfl⟩,⟨by simp,rfl⟩,⟨by simp,rfl⟩,⟨by simp,rfl⟩,⟨by simp,rfl⟩,⟨by simp,rfl⟩,⟨by simp,rfl⟩,⟨cs,rfl,(zw _ hcl).symm⟩,trivial⟩
  ⟨.same 0 _ _ rfl rfl rfl (hb _ (by simp) _ hs),.same 1 _ _ rfl rfl rfl (hb _ (by simp) _ hs),.same 2 _ _ rfl rfl rfl (hb _ (by simp) _ hs),.same 3 _ _ rfl rfl rfl (hb _ (by simp) _ hs),.same 4 _ _ rfl rfl rfl (hb _ (by simp) _ hs),
   .same 5 _ _ rfl rfl rfl (hb _ (by simp) _ hs),.same 6 _ _ rfl rfl rfl (hb _ (by simp) _ hs),.same 7 _ _ rfl rfl rfl (hb _ (by simp) _ hs),.same 8 _ _ rfl rfl rfl (hb _ (by simp) _ hs),.same 9 _ _ rfl rfl rfl (hb _ (by simp) _ hs),trivial⟩ hF) h
theorem keeps_drop {H:zz} (h8:H.length=10) (hb:∀ o∈H,Keeps o):∀ o∈H,o.sub (vt H.length)=o:=by
 intro o ho
 refine hb o ho _ fun i hi=>?_
 rw [h8];unfold vt
 have:Nat.blt i 10=true:=Nat.ble_eq_true_of_le hi
 rw [this];rfl
theorem tu {H:zz} {u v:AV} (h:u=v) (hc:v.closed=true):Fz H u v:=by subst h;exact Fz.none (.cl hc)
theorem closed_fn (f:FuncId) (cs:List AV):(AV.fn f cs).closed=AV.closedL cs:=rfl
theorem closed_iptr (cs:List AV):(AV.iptr cs).closed=AV.closedL cs:=rfl
theorem zg {v:AV} (h:v.closed=true):AV.closedL [v]=true:=by simp [AV.closedL,h]
end Go.Am
end
section
namespace Go.Am
def ACallN (E:Env) (N:Nat) (f:FuncId) (args:List AV) (H:zz) (R:AV→zz→Prop):Prop :=
 ∀ K w ys,N≤H.length→HRep E K w H→VReps K H.length w args ys →
  Calls E.P f ys.toArray w fun e w'=>∃ v y H' K',e=.returned y∧R v H'∧HRep E K' w' H'∧VRep K' H'.length w' v y∧Ev N K H w K' H' w'
theorem ACallN.all {E:Env} {f:FuncId} {args:List AV} {H:zz} {R:AV→zz→Prop} (h:ACallN E H.length f args H R):ACall E f args H R:=fun K w ys h1 h2=>h K w ys (Nat.le_refl _) h1 h2
theorem ACallN.mono {E:Env} {N:Nat} {f:FuncId} {args:List AV} {H:zz} {R R':AV→zz→Prop} (h:ACallN E N f args H R) (hr:∀ v H',R v H'→R' v H'):ACallN E N f args H R' :=
 fun K w ys hN hh hv=>(h K w ys hN hh hv).mono fun _e _w' ⟨v,y,H',K',h1,h2,h3⟩=>⟨v,y,H',K',h1,hr v H' h2,h3⟩
theorem acallN_body {E:Env} {N:Nat} {f:FuncId} {fn:Func} {ac:ACode} {args:List AV} {H:zz} {R:AV→zz→Prop} {rvs:List RV} (hf:E.P.funcs[f]? = some fn) (hb:fn.body.map (yF E.P fn.ntmps)=some ac) (hrv:fn.results.toList.map (wE E.P)=rvs.map some) (hn:args.length≤fn.ntmps)
 (h:AWP E fn.ntmps N ac (wL 0 args) H (fun e F' H'=>match e with | .exit _=>False | _=>∃ vs,w7 F' H' rvs=some vs∧R (wP vs) H')):ACallN E N f args H R:=by
 intro K w ys hNH h1 h2 cs
 obtain ⟨code,hcode,hprep⟩:=Option.map_eq_some_iff.1 hb
 let T:Fc:=⟨f,.normal,none⟩
 have henter:Frame.enter E.P f ys.toArray .normal=T.fr (ys.toArray++Array.replicate (fn.ntmps - ys.toArray.size) undef) [] [.code code]:=by
  simp [Frame.enter,Fc.fr,T,hf,hcode]
 have hF:=startF_rep (n:=fn.ntmps) h2 hn
 obtain ⟨e,F',H',K',w',t',nw,todo,q,a1,a2,a3,a4,a5,a6,a7⟩:=h code hprep K w _ T [] [] cs h1 hF hNH ⟨(fun l hl=>by cases hl),List.nodup_nil,(fun r hr=>by cases hr)⟩
 have fin:∀ (fr:Frame),fr = { T.fr t' ((nw++[]).map xe) todo with mode:=.returning }→Steps E.P (lone (T.fr t' ((nw++[]).map xe) todo) cs w') (lone fr cs w')→(∃ vs,w7 F' H' rvs=some vs∧R (wP vs) H') →
  ∃ e' w2 fr2,(fun e w'=>∃ v y H' K',e=.returned y∧R v H'∧HRep E K' w' H'∧VRep K' H'.length w' v y∧Ev N K H w K' H' w') e' w2∧Comes E.P (lone (Frame.enter E.P f ys.toArray .normal) cs w) (lone fr2 cs w2) e'∧fr2.fn=f∧fr2.leaving E.P w2 e':=by
  rintro fr rfl hs ⟨vs,hvs,hR⟩
  obtain ⟨w2,b1,b2,b3,b4⟩:=unmark_all nw { T.fr t' ((nw++[]).map xe) todo with mode:=.returning } cs w' N K H w rfl (by simp [Fc.fr]) (by simpa using a4.nodup) (fun r hr=>a4.marks r (by simpa using hr)) a5 a1 a3
  obtain ⟨y,c1,c2⟩:=results_run b1 (b4.frep a2) hrv hvs
  refine ⟨.returned y,w2,{ T.fr t' ((nw++[]).map xe) todo with mode:=.returning,defers:=[] },⟨_,y,H',K',rfl,hR,b1,c2,b2⟩,?_,rfl,rfl,rfl,rfl,fn,hf,c1⟩
  rw [henter]
  exact a7.trans (hs.trans b3)
 cases e with
 | exit id=>exact q.elim
 | normal=>cases a6;exact fin _ rfl (.one (st_end rfl)) q
 | ret=>cases a6 with | ret k'=>exact fin _ rfl (.one (st_ret rfl)) q
theorem rcallN_body {E:Env} {N:Nat} {f:FuncId} {fn:Func} {ac:ACode} {args:List AV} {H:zz} {R:AV→zz→Prop} {n:Nat} {rvs:List RV} (hf:E.P.funcs[f]? = some fn) (hb:fn.body.map (yF E.P n)=some ac) (hnt:fn.ntmps=n) (hrv:fn.results.toList.map (wE E.P)=rvs.map some) (hn:Nat.ble args.length n=true)
 (h:zl E n N (OQ E n N rvs R) (.code ac) [] (wL 0 args) H):ACallN E N f args H R:=by
 subst hnt
 refine acallN_body hf hb hrv (Nat.le_of_ble_eq_true hn) (AWP.entEnd (AWP.mono h fun e F' H' h=>?_))
 cases e with
 | exit i=>exact h.elim
 | normal=>obtain ⟨F2,H2,vs,a,b,c⟩:=h;exact ⟨F2,H2,a,vs,b,c⟩
 | ret=>obtain ⟨F2,H2,vs,a,b,c⟩:=h;exact ⟨F2,H2,a,vs,b,c⟩
section
variable {E:Env} {n N:Nat} {F:AFr} {H:zz} {Q:AFr→zz→Prop}
theorem aops_callN {F2:AFr} {a:AOper} {rest:List AOper} {f:FuncId} {xs:List Opd} {args:List AV} {R:AV→zz→Prop} (hg:zH F a.guard=some true) (ho':a.op=.call f xs) (hargs:xs.map (·.ev E.G F)=args) (hen:xu E.P f) (hc:ACallN E N f args H R) (hF2:FWk N (vt N) F F2)
 (h:∀ v H1,R v H1→AOps E n N rest (F2.set a.dst v) H1 Q):AOps E n N (a :: rest) F H Q:=by
 intro ops l hl K w tmps T ds k cs h1 h2 h3
 obtain ⟨i,l',o,rfl,ho,rfl,hl'⟩:=wr hl
 have hnb:(zI E.P n ops o).op≠.bad:=by rw [ho'];intro e;cases e
 obtain ⟨e1,e2,e3⟩:=wx hnb
 rw [e1] at ho' hnb
 have hw:=wU h2 e3 hg
 have hops:=tx h1 h2 (ρ:=(T.fr tmps ds (.inRegion ops (i :: l') :: k)).eval) (fun x=>Fc.eval_fr _ _ _ _ x)
 obtain ⟨c,hop,hcal,rfl⟩:=prepOp_call ho'
 have hvs:VReps K H.length w args (c.args.toList.map (T.fr tmps ds (.inRegion ops (i :: l') :: k)).eval):=by
  rw [← hargs]
  refine ⟨by simp,?_⟩
  have:=tY hops (xs:=c.args.toList)
  intro j x y hx hy
  exact this j x y (by simpa using hx) hy
 have hrun:(execOp (T.fr tmps ds (.inRegion ops (i :: l') :: k)).eval o).run E.P w=.ok (.enter f (c.args.toList.map (T.fr tmps ds (.inRegion ops (i :: l') :: k)).eval).toArray) w:=by
  have ha:(c.args.toList.map (T.fr tmps ds (.inRegion ops (i :: l') :: k)).eval).toArray=c.args.map (T.fr tmps ds (.inRegion ops (i :: l') :: k)).eval:=Array.ext' (by simp)
  obtain ⟨callee,args',ts⟩:=c
  dsimp only at hcal ha
  subst hcal
  rw [ha]
  have hef:(T.fr tmps ds (.inRegion ops (i :: l') :: k)).eval (.func f)=.func (.func f) #[] #[]:=rfl
  simp [execOp,hop,resolve,hef,Deferred.ofValue,invoke]
  exact hen _ _
 have hst:=st_op_enter (cs:=cs) ho hw (w8 hnb) hrun
 have hcalls:=(hc K w _ h3 h1 hvs).mono (R':=fun e w'=>∃ y,e=.returned y∧∃ v H' K',R v H'∧HRep E K' w' H'∧VRep K' H'.length w' v y∧Ev N K H w K' H' w') (by
  rintro e w' ⟨v,y,H',K',rfl,h⟩;exact ⟨y,rfl,v,H',K',h⟩)
 obtain ⟨y,w1,⟨v,H1,K1,hR,hh,hv,ev⟩,hs⟩:=calls_steps hcalls (T.fr tmps ds (.inRegion ops (i :: l') :: k)) cs
 have hfin:=uY (T:=T) (tmps:=tmps) (ds:=ds) (k:=k) (ops:=ops) (i:=i) (rest:=l') y
 rw [ho] at hfin;simp only [Option.bind_some] at hfin
 rw [hfin] at hs
 have sok:sS E K w H (vt N) K N:=by
  refine ⟨fun b b' hb hs=>?_,fun b k es hb hs=>?_,fun b cs hb hs=>?_,fun b h=>h,fun b blk base hb h1 h2=>?_⟩
  all_goals rcases keepS_or N b with ⟨hc,hl⟩ | hc
  · rw [hc] at hs;cases hs;exact ⟨hl,rfl⟩
  · rw [hc] at hs;cases hs
  · rw [hc] at hs;cases hs
  · rw [hc] at hs;cases hs
  · rw [hc] at hs;cases hs
  · rw [hc] at hs;cases hs
  · exact absurd hc (h1 b)
  · exact absurd hc h2
 have h2':vi n K N w F2 tmps:=⟨h2.1,fun t=>(hF2.spec t).rep (vp h1 sok _ _ _ (Nat.le_refl _) (h2.2 t))⟩
 have hF:=wq (Ev.mv h1 ev) h2' hv o.dst (.inl e2)
 have h:=h v H1 hR
 rw [yH] at h
 obtain ⟨F',H',K',w',t',q,a1,a2,a3,a4⟩:=h ops l' hl' K1 w1 _ T ds k cs hh hF ev.len
 exact ⟨F',H',K',w',t',q,a1,a2,ev.trans a3,.head hst (hs.trans a4)⟩
end
section
variable {E:Env} {n N:Nat} {Q:zL→AFr→zz→Prop} {k:List KI} {F F2:AFr} {H:zz}
theorem on_callN {o:AOper} {l:List AOper} {f:FuncId} {xs:List Opd} {args:List AV} {R:AV→zz→Prop} (hg:o.guard=none) (ho:o.op=.call f xs) (ha:xs.map (·.ev E.G F)=args) (hen:xu E.P f) (hc:ACallN E N f args H R) (hF2:FWk N (vt N) F F2)
 (h:∀ v H1,R v H1→zl E n N Q (.ops l) k (F2.set o.dst v) H1):zl E n N Q (.ops (o :: l)) k F H :=
 aops_callN (by rw [hg];rfl) ho ha hen hc hF2 h
end
def KeepsV (v:AV):Prop:=∀ σ:Nat→Sub,(∀ i,i<10→σ i=.to i)→v.sub σ=v
theorem KeepsV.cl {v:AV} (h:v.closed=true):KeepsV v:=fun σ _=>xc σ _ v (Nat.le_refl _) h
theorem KeepsV.ptr {b off:Nat} (h:b<10):KeepsV (.ptr b off):=fun σ hs=>by simp only [AV.sub,hs b h]
theorem KeepsV.sl {b k lo n:Nat} (h:b<10):KeepsV (.sl b k lo n):=fun σ hs=>by simp only [AV.sub,hs b h]
def FK : AFr→Prop
 | []=>True
 | (_,v) :: r=>KeepsV v∧FK r
theorem FK.sub : ∀ {F:AFr},FK F→∀ σ:Nat→Sub,(∀ i,i<10→σ i=.to i)→F.sub σ=F
 | [],_,_,_=>rfl
 | (d,v) :: r,h,σ,hs=>by
  have:=FK.sub h.2 σ hs
  unfold AFr.sub at this ⊢
  rw [List.map_cons,this,h.1 σ hs]
def CK : List AV→Prop
 | []=>True
 | v :: r=>KeepsV v∧CK r
theorem CK.sub : ∀ {cs:List AV},CK cs→∀ σ:Nat→Sub,(∀ i,i<10→σ i=.to i)→AV.subL σ cs=cs
 | [],_,_,_=>rfl
 | v :: r,h,σ,hs=>by rw [AV.subL,CK.sub h.2 σ hs,h.1 σ hs]
theorem Keeps.cells {cs:List AV} (h:CK cs):Keeps (.cells cs):=fun σ hs=>by simp only [AObj.sub,h.sub σ hs]
theorem Keeps.arr {k:Nat} {es:List AV} (h:AV.closedL es=true):Keeps (.arr k es):=fun σ _=>by simp only [AObj.sub,zw _ h]
theorem Keeps.loop {F:AFr} {n:Nat} {ps:List Nat} {a b:ACode} {st:LoopState} {pd:Option zL} (h:FK F):Keeps (.loop F n ps a b st pd):=fun σ hs=>by simp only [AObj.sub,h.sub σ hs]
def WkR (g:Prop) (A:List AObj) (S:zz→Prop) (v:AV) (H':zz):Prop:=(v=.val (.bool true)∧g∧H'=A)∨(v=.val (.bool false)∧S H')
def YdR (E:Env) (g:Prop) (A:List AObj) (S:zz→Prop) (v:AV) (H':zz):Prop:=(v=.val (.bool true)∧g∧HEnt E 8 7 H' A)∨(v=.val (.bool false)∧S H')
section
variable {E:Env} {n N N2:Nat} {Q:zL→AFr→zz→Prop} {k:List KI} {F F1 F2:AFr} {H1 H2:zz} {ps:List Nat} {a b:ACode} {pd:Option zL}
def StopS (E:Env) (n N:Nat) (Q:zL→AFr→zz→Prop) (k:List KI) (F:AFr) (ps:List Nat) (a b:ACode) (H':zz):Prop :=
 ∃ e,H'[7]? = some (.loop F n ps a b .done (some e))∧zl E n N Q (.out e) k F (H'.set 7 .dead)
theorem yZ {R:AV→zz→Prop} {l:Nat} (h1:H1[l]? = some (.loop F n ps a b .ready pd)) (h:zl E n N (ta E l F n ps a b R) (.code b) [] F1 (H1.set l (.loop F n ps a b .busy pd))) :
 zl E n N (tM E l N F n ps a b R) (.out .normal) [] F1 H1:=⟨rfl,pd,h1,h⟩
theorem uU {g:Prop} {A:List AObj} {S:zz→Prop} (h1:H2[7]? = some (.loop F n ps a b .busy pd)) (hg:g) (h:HEnt E 8 7 (H2.set 7 (.loop F n ps a b .ready none)) A) :
 zl E n N (ta E 7 F n ps a b (YdR E g A S)) (.out .normal) [] F2 H2:=⟨pd,h1,.inl ⟨rfl,hg,h⟩⟩
theorem rnd_stop {g:Prop} {A:List AObj} {e:zL} (hne:e≠.normal) (h1:H2[7]? = some (.loop F n ps a b .busy pd)) (h:zl E n N2 Q (.out e) k F (H2.set 7 .dead)) :
 zl E n N (ta E 7 F n ps a b (YdR E g A (StopS E n N2 Q k F ps a b))) (.out e) [] F2 H2:=by
 have h7:7<H2.length:=(List.getElem?_eq_some_iff.1 h1).1
 refine ⟨pd,h1,?_⟩
 cases e with
 | normal=>exact absurd rfl hne
 | _=>exact .inr ⟨rfl,_,by rw [List.getElem?_set_self h7],by rw [List.set_set];exact h⟩
end
end Go.Am
end
section
namespace Go.Am
theorem HRep.calm {E:Env} {K:Ctx} {w w':World} {H:zz} (h:HRep E K w H) (hw:∀ b,yb K H b∨K.I b→w'.heap[b]? = w.heap[b]?)
 (hc:∀ (b:Nat) c ty fz,w.heap[b]? = some (.cells c ty fz)→∃ c' fz',w'.heap[b]? = some (.cells c' ty fz')∧c'.size=c.size) (hs:w.heap.size≤w'.heap.size):HRep E K w' H:=by
 have hm:Mv K H.length w K H.length w':=⟨fun _ _=>rfl,Nat.le_refl _,fun _ h=>h,fun b hb o=>yI (hw b (.inr hb)) o,hc⟩
 refine ⟨fun b o hb=>hm.orep (h.obj b o hb) fun blk base e hl=>hw blk (.inl (.inl ⟨b,o,base,hb,hl,e⟩)),h.inj,h.disj,fun b hb=>Nat.lt_of_lt_of_le (h.low b hb) hs,fun g=>?_,
  h.x.stay rfl (fun _ h=>h) (fun b hb=>hw b (hb.imp .inr id)) hc hs (fun _ h=>.inl h) (fun b j st hb=>⟨b,hb⟩)⟩
 exact VRep.mono (K:=K) (K':=K) (fun b hb=>absurd hb (Nat.not_lt_zero _)) (Nat.le_refl _) (fun _ h=>h) hm.wc hm.cells (h.glob g)
theorem HRep.more {E:Env} {K K':Ctx} {w:World} {H:zz} (h:HRep E K w H) (hg:K'.γ=K.γ) (hB:K'.B=K.B) (he:K'.e=K.e) (hI:∀ b,K.I b→K'.I b) (hd:∀ b,yb K H b→¬ K'.I b) (hl:∀ b,K'.I b→b<w.heap.size):HRep E K' w H:=by
 have hm:Mv K H.length w K' H.length w:=⟨fun b _=>by rw [hg],Nat.le_refl _,hI,fun _ _ _=>rfl,fun b c ty fz h=>⟨c,fz,h,rfl⟩⟩
 have o1:∀ b,ws K' H b→ws K H b:=fun b ⟨i,o,base,h1,h2,h3⟩=>⟨i,o,base,h1,h2,by rw [← hg];exact h3⟩
 refine ⟨fun b o hb=>?_,fun b b' o o' blk base base' h1 h2 l1 l2 e1 e2=>?_,fun b hb=>hd b (hb.imp (o1 b) (fun h=>hB ▸ h)),hl,fun g=>?_,h.xsame hB hI o1 (fun b j st hb=>⟨b,hb⟩) he⟩
 · rw [hg];exact hm.orep (h.obj b o hb) (fun _ _ _ _=>rfl)
 · rw [hg] at e1 e2;exact h.inj b b' o o' blk base base' h1 h2 l1 l2 e1 e2
 · exact VRep.mono (K:=K) (K':=K') (fun b hb=>absurd hb (Nat.not_lt_zero _)) (Nat.le_refl _) hI hm.wc hm.cells (h.glob g)
def YX (E:Env) (blk:Nat) (outs:List (List AV)):Prop :=
 ∀ (j:Nat) args,outs[j]? = some args→∀ H:zz,H[0]? = some (.ext j false)→sQ H.tail=true →
  AYieldX E blk args H fun v H'=>(v=.val (.bool true)∧H'=H.set 0 (.ext (j+1) false))∨(v=.val (.bool false)∧H'=H.set 0 (.ext (j+1) true))
abbrev yv (blk:Nat):AV:=.val (.func (.yield blk) #[] #[])
def XCall (P:Program) (G:Nat→AV) (g:FuncId) (cs:List AV) (outs:List (List AV)):Prop :=
 xu P g∧∀ X (hX) (blk:Nat),YX ⟨P,G,X,hX⟩ blk outs→ACall ⟨P,G,X,hX⟩ g (yv blk :: cs) [.ext 0 false] fun _ H'=>H'=[.ext outs.length false]∨∃ j,H'=[.ext j true]
def XInv (E:Env) (K:Ctx) (n:Nat) (A:Nat→zz→Prop) (S:zz→Prop) (j:Nat) (st:Bool) (B I:Nat→Prop) (w:World):Prop :=
 ∃ (K2:Ctx) (H2:zz),(st=false→A j H2)∧(st=true→S H2)∧HRep E K2 w H2∧(∀ b,yb K2 H2 b↔B b)∧(∀ b,K2.I b→I b)∧(∀ b,b<n→K2.γ b=K.γ b)∧n≤H2.length∧(∀ b,K.I b→K2.I b)∧K2.e=K.e
theorem XInv.stable {E:Env} {K:Ctx} {n:Nat} {A:Nat→zz→Prop} {S:zz→Prop} {j:Nat} {st:Bool} {B I I':Nat→Prop} {w w':World} (h:XInv E K n A S j st B I w) (hI:∀ b,I b→I' b) (hw:∀ b,B b∨I b→w'.heap[b]? = w.heap[b]?)
 (hc:∀ (b:Nat) c ty fz,w.heap[b]? = some (.cells c ty fz)→∃ c' fz',w'.heap[b]? = some (.cells c' ty fz')∧c'.size=c.size) (hs:w.heap.size≤w'.heap.size):XInv E K n A S j st B I' w':=by
 obtain ⟨K2,H2,h1,h2,h3,h4,h5,h6⟩:=h
 exact ⟨K2,H2,h1,h2,h3.calm (fun b hb=>hw b (hb.imp (h4 b).1 (h5 b))) hc hs,h4,fun b hb=>hI b (h5 b hb),h6⟩
theorem vP {K K':Ctx} {M M':Nat} {w:World} (hI:∀ b,K.I b→K'.I b) {vs:List AV} {ys:List Value} (h:VReps K M w vs ys) (hc:AV.closedL vs=true):VReps K' M' w vs ys :=
 ⟨h.1,fun i x y hx hy=>rep_closed hI (h.2 i x y hx hy) (AV.closedL_mem hc x (List.mem_of_getElem? hx))⟩
theorem yx_of {E:Env} {K:Ctx} {n l blk base:Nat} {A:Nat→zz→Prop} {S:zz→Prop} {outs:List (List AV)} (hln:l<n) (hg:K.γ l=some (blk,base)) (hcl:∀ a∈outs,AV.closedL a=true)
 (hR:∀ (j:Nat) args,outs[j]? = some args→∀ H,A j H→AYield E l args H fun v H'=>(v=.val (.bool true)∧A (j+1) H')∨(v=.val (.bool false)∧S H')) :
 YX ⟨E.P,E.G,XInv E K n A S,XInv.stable⟩ blk outs:=by
 intro j args hj H h0 hone Kc w ys hh hv
 obtain ⟨he,K2,H2,h1,_,h3,h4,h5,h6,h7,h8,h9⟩:=hh.x.ext 0 j false h0
 have hlow:∀ b,Kc.I b→b<w.heap.size:=hh.low
 let Kp:Ctx:={ K2 with I:=Kc.I }
 have hown:∀ b,yb Kp H2 b↔Kc.B b:=fun b=>(show yb Kp H2 b↔yb K2 H2 b from Iff.rfl).trans (h4 b)
 have hp:HRep E Kp w H2:=h3.more rfl rfl rfl h5 (fun b hb hi=>hh.disj b (.inr ((h4 b).1 hb)) hi) hlow
 have hvp:VReps Kp H2.length w args ys:=vP (K:=Kc) (K':=Kp) (fun _ h=>h) hv (hcl args (List.mem_of_getElem? hj))
 obtain ⟨r,e1,e2,e3⟩:=hR j args hj H2 (h1 rfl) Kp w ys blk base hp hvp (Nat.lt_of_lt_of_le hln h7) ((h6 l hln).trans hg)
 refine ⟨r,e1,e2,fun c cs=>?_⟩
 obtain ⟨v,y,H3,K3,w3,hq,r3,v3,ev,st3⟩:=e3 c cs
 obtain ⟨st,hst⟩:∃ st:Bool,(st=false→A (j+1) H3)∧(st=true→S H3)∧((v=.val (.bool true)∧st=false)∨(v=.val (.bool false)∧st=true)):=by
  rcases hq with ⟨hq,ha⟩ | ⟨hq,ha⟩
  · exact ⟨false,fun _=>ha,(fun h=>by cases h),.inl ⟨hq,rfl⟩⟩
  · exact ⟨true,(fun h=>by cases h),fun _=>ha,.inr ⟨hq,rfl⟩⟩
 obtain ⟨a1,a2,a3⟩:=hst
 let K':Ctx:=⟨Kc.γ,K3.I,fun b=>yb K3 H3 b,Kc.e⟩
 have hfr:∀ b,b<w.heap.size→¬ Kc.B b→w3.heap[b]? = w.heap[b]?:=fun b hb hn=>ev.frame b hb (fun ho=>hn ((hown b).1 ho))
 have hIk:∀ b,Kc.I b→w3.heap[b]? = w.heap[b]?:=fun b hb=>hfr b (hlow b hb) fun hB=>hh.disj b (.inr hB) hb
 have hm:Mv Kc H.length w K' H.length w3:=⟨fun _ _=>rfl,Nat.le_refl _,ev.I,fun b hb o=>yI (hIk b hb) o,ev.cells⟩
 have hset:∀ (x:Nat) o,(H.set 0 (.ext (j+1) st))[x]? = some o→(x=0∧o=.ext (j+1) st)∨(x≠0∧H[x]? = some o):=by
  intro x o hx
  rw [List.getElem?_set] at hx
  by_cases e:0=x
  · subst e
    have:0<H.length:=(List.getElem?_eq_some_iff.1 h0).1
    simp [this] at hx;exact .inl ⟨rfl,hx.symm⟩
  · rw [if_neg e] at hx;exact .inr ⟨fun h=>e h.symm,hx⟩
 have ho1:∀ b,ws K' (H.set 0 (.ext (j+1) st)) b→ws Kc H b:=by
  rintro b ⟨x,o,bs,g1,g2,g3⟩
  rcases hset x o g1 with ⟨_,rfl⟩ | ⟨_,g1⟩
  · exact g2.elim
  · exact ⟨x,o,bs,g1,g2,g3⟩
 have hBo:∀ b,yb K3 H3 b→Kc.B b∨w.heap.size≤b:=fun b hb=>(ev.own b hb).imp (hown b).1 id
 have hlt1:∀ b,ws Kc H b→b<w.heap.size:=fun b hb=>yE hh (.inl hb)
 refine ⟨v,y,H.set 0 (.ext (j+1) st),K',w3,?_,⟨?_,?_,?_,r3.low,?_,?_⟩,?_,?_,st3⟩
 · rcases a3 with ⟨b1,rfl⟩ | ⟨b1,rfl⟩
   · exact .inl ⟨b1,rfl⟩
   · exact .inr ⟨b1,rfl⟩
 · intro x o hx
   rw [List.length_set]
   rcases hset x o hx with ⟨_,rfl⟩ | ⟨_,hx⟩
   · exact .ext _ _ _
   · exact hm.orep (hh.obj x o hx) fun b bs e hl=>hfr b (hlt1 b ⟨x,o,bs,hx,hl,e⟩) (hh.x.dis b ⟨x,o,bs,hx,hl,e⟩)
 · intro x x' o o' b b1 b2 g1 g2 l1 l2 e1 e2
   rcases hset x o g1 with ⟨_,rfl⟩ | ⟨_,g1⟩
   · exact l1.elim
   rcases hset x' o' g2 with ⟨_,rfl⟩ | ⟨_,g2⟩
   · exact l2.elim
   exact hh.inj x x' o o' b b1 b2 g1 g2 l1 l2 e1 e2
 · rintro b (hb | hb) hi
   · have hb:=ho1 b hb
     rcases ev.I' b hi with h | h | h
     · exact hh.disj b (.inl hb) h
     · exact hh.x.dis b hb ((hown b).1 h)
     · have:=hlt1 b hb;omega
   · exact r3.disj b hb hi
 · intro g
   exact VRep.mono (K:=Kc) (K':=K') (fun b hb=>absurd hb (Nat.not_lt_zero _)) (Nat.le_refl _) ev.I hm.wc hm.cells (hh.glob g)
 · refine ⟨fun b hb hB=>?_,fun b hb=>yE r3 hb,fun x j' st' hx=>?_⟩
   · rcases hBo b hB with h | h
     · exact hh.x.dis b (ho1 b hb) h
     · have:=hlt1 b (ho1 b hb);omega
   · rcases hset x _ hx with ⟨_,e⟩ | ⟨hne,hx⟩
     · cases e
       exact ⟨he,K3,H3,a1,a2,r3,fun b=>Iff.rfl,fun _ h=>h,fun b hb=>(ev.γ b (Nat.lt_of_lt_of_le hb h7)).trans (h6 b hb),Nat.le_trans h7 ev.len,fun b hb=>ev.I b (h5 b (h8 b hb)),ev.e.trans h9⟩
     · cases x with
       | zero=>exact absurd rfl hne
       | succ x=>exact absurd (show H.tail[x]? = some (.ext j' st') by rw [List.getElem?_tail];exact hx) (noExt_get hone)
 · have hvb:v=.val (.bool true)∨v=.val (.bool false):=by rcases a3 with ⟨h,_⟩ | ⟨h,_⟩;exact .inl h;exact .inr h
   rcases hvb with rfl | rfl<;>· cases v3;exact .val _ (by intro cs;simp)
 · exact ⟨fun _ _=>rfl,by simp,ev.I,fun b hb=>(ev.I' b hb).imp id (fun h=>h.imp (fun h=>.inr ((hown b).1 h)) id),fun b hb=>hb.elim (fun h=>.inl (.inl (ho1 b h))) (fun h=>(hBo b h).imp .inr id),
    fun b hb hn=>hfr b hb (fun h=>hn (.inr h)),ev.size,ev.cells,ev.loops,ev.os,ev.out,rfl⟩
theorem XCall.use {E:Env} {g:FuncId} {cs:List AV} {outs:List (List AV)} (hc:XCall E.P E.G g cs outs) {H0:zz} {l:Nat} (A:Nat→zz→Prop) (S:zz→Prop) (h0:A 0 H0) (hl:l<H0.length) (hcs:AV.closedL cs=true) (hcl:∀ a∈outs,AV.closedL a=true)
 (hR:∀ (j:Nat) args,outs[j]? = some args→∀ H,A j H→AYield E l args H fun v H'=>(v=.val (.bool true)∧A (j+1) H')∨(v=.val (.bool false)∧S H')) :
 ACall E g (.yld l :: cs) H0 fun _ H'=>A outs.length H'∨S H':=by
 intro K w ys hh hv
 obtain ⟨y0,ys',rfl⟩:∃ y0 ys',ys=y0 :: ys':=by
  cases ys with
  | nil=>have:=hv.1;simp at this
  | cons a b=>exact ⟨a,b,rfl⟩
 have hy0:=hv.2 0 _ _ rfl rfl
 have hvs:VReps K H0.length w cs ys':=⟨by have:=hv.1;simpa using this,fun i x y hx hy=>hv.2 (i+1) x y (by simpa using hx) (by simpa using hy)⟩
 cases hy0 with
 | yld _ blk base hM hg =>
 let Kc:Ctx:=⟨fun _=>none,K.I,fun b=>yb K H0 b,true⟩
 let Ec:Env:=⟨E.P,E.G,XInv E K H0.length A S,XInv.stable⟩
 have hx0:XInv E K H0.length A S 0 false (fun b=>yb K H0 b) K.I w:=⟨K,H0,fun _=>h0,(fun h=>by cases h),hh,fun b=>Iff.rfl,fun _ h=>h,fun _ _=>rfl,Nat.le_refl _,fun _ h=>h,rfl⟩
 have hno:∀ b,¬ ws Kc [.ext 0 false] b:=by
  rintro b ⟨i,o,bs,g1,g2,g3⟩
  cases g3
 have hhc:HRep Ec Kc w [.ext 0 false]:=by
  refine ⟨fun b o hb=>?_,fun b b' o o' blk' b1 b2 g1 g2 l1 l2 e1 e2=>(by cases e1),fun b hb=>hb.elim (fun h=>(hno b h).elim) (fun h=>hh.disj b h),hh.low,fun g=>?_,⟨fun b hb=>(hno b hb).elim,fun b hb=>yE hh hb,fun b j st hb=>?_⟩⟩
  · cases b with
    | zero=>simp at hb;subst hb;exact .ext _ _ _
    | succ b=>simp at hb
  · exact VRep.mono (K:=K) (K':=Kc) (fun b hb=>absurd hb (Nat.not_lt_zero _)) (Nat.le_refl _) (fun _ h=>h) (fun _ _ _=>rfl) (fun b c ty fz h=>⟨c,fz,h,rfl⟩) (hh.glob g)
  · cases b with
    | zero=>simp at hb;obtain ⟨rfl,rfl⟩:=hb;exact ⟨rfl,hx0⟩
    | succ b=>simp at hb
 have hvc:VReps Kc [AObj.ext 0 false].length w (yv blk :: cs) (.func (.yield blk) #[] #[] :: ys'):=by
  have h2:=vP (K:=K) (K':=Kc) (M':=[AObj.ext 0 false].length) (fun _ h=>h) hvs hcs
  refine ⟨by simp [h2.1],fun i x y hx hy=>?_⟩
  cases i with
  | zero=>simp at hx hy;subst hx hy;exact .val _ (by intro cs;simp)
  | succ i=>exact h2.2 i x y (by simpa using hx) (by simpa using hy)
 have hyx:YX Ec blk outs:=yx_of hl hg hcl hR
 refine (hc.2 _ _ blk hyx Kc w _ hhc hvc).mono ?_
 rintro e w' ⟨v,y,H',K',rfl,hr,hh',hv',ev⟩
 obtain ⟨j,st,hH,hA⟩:∃ j st,H'=[.ext j st]∧∀ H2,(st=false→A j H2)→(st=true→S H2)→A outs.length H2∨S H2:=by
  rcases hr with rfl | ⟨j,rfl⟩
  · exact ⟨_,_,rfl,fun H2 h _=>.inl (h rfl)⟩
  · exact ⟨_,_,rfl,fun H2 _ h=>.inr (h rfl)⟩
 subst hH
 obtain ⟨_,K2,H2,h1,h2,h3,h4,h5,h6,h7,h8,h9⟩:=hh'.x.ext 0 j st rfl
 refine ⟨.undef,y,H2,K2,rfl,hA H2 h1 h2,h3,.undef _,⟨h6,h7,h8,fun b hb=>?_,fun b hb=>?_,fun b hb hn=>?_,ev.size,ev.cells,ev.loops,ev.os,ev.out,h9⟩⟩
 · rcases ev.I' b (h5 b hb) with h | h | h
   · exact .inl h
   · exact .inr (.inl (h.elim (fun h=>(hno b h).elim) id))
   · exact .inr (.inr h)
 · rcases ev.own b (.inr ((h4 b).1 hb)) with h | h
   · exact .inl (h.elim (fun h=>(hno b h).elim) id)
   · exact .inr h
 · exact ev.frame b hb fun h=>hn (h.elim (fun h=>(hno b h).elim) id)
theorem HRep.toX {P:Program} {G:Nat→AV} {K:Ctx} {w:World} {H:zz} (h:HRep (.of P G) K w H) (X) (hX):HRep ⟨P,G,X,hX⟩ K w H:=by
 refine ⟨fun b o hb=>?_,h.inj,h.disj,h.low,h.glob,⟨h.x.dis,h.x.low,fun b j st hb=>(h.x.ext b j st hb).2.elim⟩⟩
 have ho:=h.obj b o hb
 revert ho;generalize K.γ b=g;intro ho
 cases ho with
 | dead=>exact .dead _
 | cells blk base cs c ty h hl=>exact .cells blk base cs c ty h hl
 | arr0 k=>exact .arr0 k
 | arr blk base k es c ty h hk hl=>exact .arr blk base k es c ty h hk hl
 | loop blk base F n ps a b st pd r h hst hpd hps hn ha hb2 hF=>exact .loop blk base F n ps a b st pd r h hst hpd hps hn ha hb2 hF
 | amap blk base es ents clock h hl he=>exact .amap blk base es ents clock h hl he
 | ext _ j st=>exact .ext _ j st
theorem HRep.ofX {P:Program} {G:Nat→AV} {K:Ctx} {w:World} {H:zz} {X} {hX} (h:HRep ⟨P,G,X,hX⟩ K w H) (hn:sQ H=true):HRep (.of P G) K w H:=by
 refine ⟨fun b o hb=>?_,h.inj,h.disj,h.low,h.glob,⟨h.x.dis,h.x.low,fun b j st hb=>absurd hb (noExt_get hn)⟩⟩
 have ho:=h.obj b o hb
 revert ho;generalize K.γ b=g;intro ho
 cases ho with
 | dead=>exact .dead _
 | cells blk base cs c ty h hl=>exact .cells blk base cs c ty h hl
 | arr0 k=>exact .arr0 k
 | arr blk base k es c ty h hk hl=>exact .arr blk base k es c ty h hk hl
 | loop blk base F n ps a b st pd r h hst hpd hps hn ha hb2 hF=>exact .loop blk base F n ps a b st pd r h hst hpd hps hn ha hb2 hF
 | amap blk base es ents clock h hl he=>exact .amap blk base es ents clock h hl he
 | ext _ j st=>exact .ext _ j st
theorem ACall.toX {P:Program} {G:Nat→AV} {f:FuncId} {args:List AV} {H:zz} {R:AV→zz→Prop} (h:ACall (.of P G) f args H R) (X) (hX) (hn:sQ H=true:=by rfl):ACall ⟨P,G,X,hX⟩ f args H R:=by
 intro K w ys hh hv
 refine (h K w ys (hh.ofX hn) hv).mono ?_
 rintro e w' ⟨v,y,H',K',rfl,hr,hh',hv',ev⟩
 exact ⟨v,y,H',K',rfl,hr,hh'.toX X hX,hv',ev⟩
theorem PCall.toX {P:Program} {G:Nat→AV} {f:FuncId} {args:List AV} {v:AV} (h:PCall (.of P G) f args v) (X) (hX):PCall ⟨P,G,X,hX⟩ f args v:=⟨h.1,h.2.toX X hX⟩
theorem OCall.toX {P:Program} {G:Nat→AV} {f:FuncId} {args:List AV} {v:AV} {H0:zz} (h:OCall (.of P G) f args v H0) (X) (hX):OCall ⟨P,G,X,hX⟩ f args v H0:=⟨h.1,h.2.toX X hX⟩
section
variable {E:Env} {n N:Nat} {Q:zL→AFr→zz→Prop} {k:List KI} {F:AFr} {H:zz}
theorem on_rfunX {f:Opd} {ps:List Nat} {a b:ACode} {g:FuncId} {cs:List AV} {outs:List (List AV)} (hf:f.ev E.G F=.fn g cs) (hc:XCall E.P E.G g cs outs) (A:Nat→zz→Prop) (S:zz→Prop) (h0:A 0 (H++[.loop F n ps a b .ready none]))
 (hcs:AV.closedL cs=true) (hcl:∀ a∈outs,AV.closedL a=true)
 (hR:∀ (j:Nat) args,outs[j]? = some args→∀ H1,A j H1→AYield E H.length args H1 fun v H'=>(v=.val (.bool true)∧A (j+1) H')∨(v=.val (.bool false)∧S H'))
 (hend:∀ H1,A outs.length H1∨S H1→∃ st pd,H1[H.length]? = some (.loop F n ps a b st pd)∧st≠.busy∧uo E n N Q k (pd.getD .normal) F (H1.set H.length .dead)):zl E n N Q (.code (.rfun f ps a b)) k F H :=
 sZ hf hc.1 ((hc.use A S h0 (by simp) hcs hcl hR).mono fun _ H1 h=>hend H1 h)
theorem AYieldX.weak {E:Env} {blk:Nat} {args args0:List AV} {H:zz} {R:AV→zz→Prop} (h:AYieldX E blk args H R) (hw:WkL H.length args0 args):AYieldX E blk args0 H R:=by
 intro K w ys h1 h2
 have hs:=hw.spec
 refine h K w ys h1 ⟨hs.1.symm.trans h2.1,fun i x y hx hy=>?_⟩
 obtain ⟨x0,hx0⟩:∃ x0,args0[i]? = some x0:=⟨_,List.getElem?_eq_getElem (by have:=(List.getElem?_eq_some_iff.1 hx).1;have:=hs.1;omega)⟩
 exact (hs.2 i x0 x hx0 hx).rep (h2.2 i x0 y hx0 hy)
theorem w9 {o:AOper} {l:List AOper} {x:Opd} {xs:List Opd} {blk j:Nat} {args0 args:List AV} {outs:List (List AV)} (hy:YX E blk outs) (hj:outs[j]? = some args) (hg:zH F o.guard=some true) (ho:o.op=.callv x xs) (hf:x.ev E.G F=yv blk) (ha:xs.map (·.ev E.G F)=args0)
 (hw:WkL H.length args0 args) (h0:H[0]? = some (.ext j false)) (hone:sQ H.tail=true)
 (ht:zl E n N Q (.ops l) k (F.set o.dst (.val (.bool true))) (H.set 0 (.ext (j+1) false))) (hs:zl E n N Q (.ops l) k (F.set o.dst (.val (.bool false))) (H.set 0 (.ext (j+1) true))):zl E n N Q (.ops (o :: l)) k F H:=by
 refine aops_callv (R:=fun v H'=>(v=.val (.bool true)∧H'=H.set 0 (.ext (j+1) false))∨(v=.val (.bool false)∧H'=H.set 0 (.ext (j+1) true))) hg ho hf ha ⟨rfl,rfl,(hy j args hj H h0 hone).weak hw⟩ ?_
 rintro v H1 (⟨rfl,rfl⟩ | ⟨rfl,rfl⟩)
 · exact ht
 · exact hs
end
def KpV (n:Nat) (v:AV):Prop:=∀ σ:Nat→Sub,(∀ i,i<n→σ i=.to i)→v.sub σ=v
theorem KpV.cl {n:Nat} {v:AV} (h:v.closed=true):KpV n v:=fun σ _=>xc σ _ v (Nat.le_refl _) h
theorem KpV.ptr {n b off:Nat} (h:b<n):KpV n (.ptr b off):=fun σ hs=>by simp only [AV.sub,hs b h]
theorem KpV.sl {n b k lo m:Nat} (h:b<n):KpV n (.sl b k lo m):=fun σ hs=>by simp only [AV.sub,hs b h]
def KpF (n:Nat):AFr→Prop
 | []=>True
 | (_,v) :: r=>KpV n v∧KpF n r
theorem KpF.sub {n:Nat}:∀ {F:AFr},KpF n F→∀ σ:Nat→Sub,(∀ i,i<n→σ i=.to i)→F.sub σ=F
 | [],_,_,_=>rfl
 | (d,v) :: r,h,σ,hs=>by
  have h2:=KpF.sub h.2 σ hs
  simp only [AFr.sub,List.map_cons] at h2 ⊢
  rw [h2,h.1 σ hs]
def KpL (n:Nat):List AV→Prop
 | []=>True
 | v :: r=>KpV n v∧KpL n r
theorem KpL.sub {n:Nat}:∀ {cs:List AV},KpL n cs→∀ σ:Nat→Sub,(∀ i,i<n→σ i=.to i)→AV.subL σ cs=cs
 | [],_,_,_=>by simp only [AV.subL]
 | v :: r,h,σ,hs=>by simp only [AV.subL];rw [h.1 σ hs,KpL.sub h.2 σ hs]
theorem KpL.cl {n:Nat}:∀ {cs:List AV},AV.closedL cs=true→KpL n cs
 | [],_=>trivial
 | v :: r,h=>by
  simp only [AV.closedL,Bool.and_eq_true] at h
  exact ⟨.cl h.1,KpL.cl h.2⟩
def Kp (n:Nat) (o:AObj):Prop:=∀ σ:Nat→Sub,(∀ i,i<n→σ i=.to i)→o.sub σ=o
theorem Kp.dead {n:Nat}:Kp n .dead:=fun _ _=>rfl
theorem Kp.ext {n j:Nat} {st:Bool}:Kp n (.ext j st):=fun _ _=>rfl
theorem Kp.cells {n:Nat} {cs:List AV} (h:KpL n cs):Kp n (.cells cs):=fun σ hs=>by simp only [AObj.sub,h.sub σ hs]
theorem Kp.arr {n k:Nat} {es:List AV} (h:AV.closedL es=true):Kp n (.arr k es):=fun σ _=>by simp only [AObj.sub,zw _ h]
theorem Kp.loop {m:Nat} {F:AFr} {n:Nat} {ps:List Nat} {a b:ACode} {st:LoopState} {pd:Option zL} (h:KpF m F):Kp m (.loop F n ps a b st pd):=fun σ hs=>by simp only [AObj.sub,h.sub σ hs]
def KpA (n:Nat):zz→Prop
 | []=>True
 | o :: r=>Kp n o∧KpA n r
theorem KpA.mem {n:Nat}:∀ {H:zz},KpA n H→∀ o∈H,Kp n o
 | o :: r,h,x,hx=>by
  rcases List.mem_cons.1 hx with rfl | hx
  · exact h.1
  · exact KpA.mem h.2 x hx
theorem Kp.keep {H:zz} (h:∀ o∈H,Kp H.length o):∀ o∈H,o.sub (vt H.length)=o:=fun o ho=>h o ho _ fun i hi=>by
 unfold vt
 rw [show Nat.blt i H.length=true from Nat.ble_eq_true_of_le hi];rfl
theorem AYield.drop {E:Env} {l:Nat} {args:List AV} {H:zz} {R:AV→zz→Prop} (h:AYield E l args H fun v H'=>∃ b H3 X,v=.val (.bool b)∧H'=H3++X∧(∀ o∈H3,Kp H3.length o)∧H.length≤H3.length∧R v H3):AYield E l args H R:=by
 intro K w ys blk base h1 h2 h3 h4
 obtain ⟨r,e1,e2,e3⟩:=h K w ys blk base h1 h2 h3 h4
 refine ⟨r,e1,e2,fun c cs=>?_⟩
 obtain ⟨v,y,H',K',w',⟨b,H3,X,rfl,rfl,hk,hl,hr⟩,a1,a2,a3,a4⟩:=e3 c cs
 obtain ⟨b1,b2,b3⟩:=hrep_drop a1 (Kp.keep hk)
 refine ⟨_,y,H3,K',w',hr,b1,?_,a3.trans (b2 H.length hl),a4⟩
 cases a2;exact .val _ (by intro cs;simp)
section
variable {E:Env} {n N:Nat} {Q:zL→AFr→zz→Prop} {k:List KI} {F:AFr}
def RdE (c:Nat) (T:zz) (F:AFr) (n:Nat) (ps:List Nat) (a b:ACode) (v:AV) (H':zz):Prop :=
 (∃ X,v=.val (.bool true)∧H'=(.ext c false :: (T++[.loop F n ps a b .ready none]))++X)∨∃ X s,v=.val (.bool false)∧H'=(.ext s true :: (T++[.loop F n ps a b .done (some .ret)]))++X
theorem on_rfunE {f:Opd} {ps:List Nat} {a b:ACode} {g:FuncId} {cs:List AV} {outs:List (List AV)} (c:Nat→Nat) (T:zz) (hf:f.ev E.G F=.fn g cs) (hc:XCall E.P E.G g cs outs) (hcs:AV.closedL cs=true) (hcl:∀ a∈outs,AV.closedL a=true) (hps:∀ args∈outs,ps.length=args.length)
 (hT:KpA (T.length+2) T) (hF:KpF (T.length+2) F)
 (hR:∀ (j:Nat) args,outs[j]? = some args→zl E n (T.length+2) (tM E (T.length+1) (T.length+2) F n ps a b (RdE (c (j+1)) T F n ps a b)) (.code a) [] (vM F ps args) (.ext (c j) false :: (T++[.loop F n ps a b .ready none])))
 (hend:uo E n N Q k .normal F (.ext (c outs.length) false :: (T++[.dead]))) (hstop:∀ s,uo E n N Q k .ret F (.ext s true :: (T++[.dead]))):zl E n N Q (.code (.rfun f ps a b)) k F (.ext (c 0) false :: T):=by
 have hlen:∀ (st:LoopState) (pd:Option zL) (o:AObj),(o :: (T++[AObj.loop F n ps a b st pd])).length=T.length+2:=fun st pd o=>by simp
 have hget:∀ (o x:AObj),(o :: (T++[x]))[T.length+1]? = some x:=fun o x=>by simp
 have hset:∀ (o x y:AObj),(o :: (T++[x])).set (T.length+1) y=o :: (T++[y]):=fun o x y=>by simp
 have hkp:∀ (j:Nat) (s:Bool) (st:LoopState) (pd:Option zL),∀ o∈(AObj.ext j s :: (T++[.loop F n ps a b st pd])),Kp (AObj.ext j s :: (T++[.loop F n ps a b st pd])).length o:=fun j s st pd o ho=>by
  rw [hlen]
  rcases List.mem_cons.1 ho with rfl | ho
  · exact .ext
  · rcases List.mem_append.1 ho with ho | ho
    · exact hT.mem o ho
    · simp at ho;subst ho;exact .loop hF
 refine on_rfunX hf hc (fun j H1=>H1=.ext (c j) false :: (T++[.loop F n ps a b .ready none])) (fun H1=>∃ s,H1=.ext s true :: (T++[.loop F n ps a b .done (some .ret)])) rfl hcs hcl (fun j args hj H1 h1=>?_) (fun H1 h1=>?_)
 · subst h1
   show AYield E (T.length+1) args _ _
   refine AYield.drop ?_
   have h:=hR j args hj
   have hy:=yield_round (E:=E) (H:=.ext (c j) false :: (T++[.loop F n ps a b .ready none])) (R:=RdE (c (j+1)) T F n ps a b) (hget _ _) (hps args (List.mem_of_getElem? hj)) (by rw [hlen];exact h)
   intro K w ys blk base g1 g2 g3 g4
   obtain ⟨r,e1,e2,e3⟩:=hy K w ys blk base g1 g2 g3 g4
   refine ⟨r,e1,e2,fun c' cs'=>?_⟩
   obtain ⟨v,y,H',K',w',hr,a1,a2,a3,a4⟩:=e3 c' cs'
   refine ⟨v,y,H',K',w',?_,a1,a2,a3,a4⟩
   rcases hr with ⟨X,rfl,rfl⟩ | ⟨X,s,rfl,rfl⟩
   · exact ⟨true,_,X,rfl,rfl,hkp _ _ _ _,by rw [hlen,hlen];exact Nat.le_refl _,.inl ⟨rfl,rfl⟩⟩
   · exact ⟨false,_,X,rfl,rfl,hkp _ _ _ _,by rw [hlen,hlen];exact Nat.le_refl _,.inr ⟨rfl,s,rfl⟩⟩
 · rcases h1 with rfl | ⟨s,rfl⟩
   · exact ⟨.ready,none,hget _ _,by decide,by rw [show (AObj.ext (c 0) false :: T).length=T.length+1 from rfl,hset];exact hend⟩
   · exact ⟨.done,some .ret,hget _ _,by decide,by rw [show (AObj.ext (c 0) false :: T).length=T.length+1 from rfl,hset];exact hstop s⟩
theorem rndE_next {N l c n:Nat} {T X:zz} {ps:List Nat} {a b:ACode} {pd:Option zL} {F2:AFr} {H2:zz} (h1:H2[l]? = some (.loop F n ps a b .busy pd)) (hX:H2.set l (.loop F n ps a b .ready none)=(.ext c false :: (T++[.loop F n ps a b .ready none]))++X) :
 zl E n N (ta E l F n ps a b (RdE c T F n ps a b)) (.out .normal) [] F2 H2:=⟨pd,h1,.inl ⟨X,rfl,hX⟩⟩
theorem uI {N l c s n:Nat} {T X:zz} {ps:List Nat} {a b:ACode} {pd:Option zL} {F2:AFr} {H2:zz} (h1:H2[l]? = some (.loop F n ps a b .busy pd)) (hX:H2.set l (.loop F n ps a b .done (some .ret))=(.ext s true :: (T++[.loop F n ps a b .done (some .ret)]))++X) :
 zl E n N (ta E l F n ps a b (RdE c T F n ps a b)) (.out .ret) [] F2 H2:=⟨pd,h1,.inr ⟨X,s,rfl,hX⟩⟩
theorem tA {N n j:Nat} {st:Bool} {X:zz} {R:AV→zz→Prop} (hR:∀ v,R v [.ext j st]) (hN:N≤1:=by exact Nat.le_refl _):zl E n N (OQ E n N [] R) (.out .ret) [] F (.ext j st :: X) :=
 wo (F2:=[]) (H2:=[.ext j st]) (ent_drop (H:=[.ext j st]) (X:=X) (by intro o ho;simp at ho;subst ho;rfl) (by simpa using hN) trivial) rfl (hR _)
theorem oE_norm {N n j:Nat} {st:Bool} {X:zz} {R:AV→zz→Prop} (hR:∀ v,R v [.ext j st]) (hN:N≤1:=by exact Nat.le_refl _):zl E n N (OQ E n N [] R) (.out .normal) [] F (.ext j st :: X) :=
 t6 (F2:=[]) (H2:=[.ext j st]) (ent_drop (H:=[.ext j st]) (X:=X) (by intro o ho;simp at ho;subst ho;rfl) (by simpa using hN) trivial) rfl (hR _)
end
def toS (m:Nat):List Sub:=(List.range m).map .to
def toT (m:Nat):List (Option Nat):=(List.range m).map some
theorem toS_get {m:Nat} {L:List Sub} {i:Nat} (h:i<m):ofL (toS m++L) i=.to i:=by
 unfold ofL toS
 rw [List.getElem?_append_left (by simpa using h),List.getElem?_map,List.getElem?_range h];rfl
theorem toT_get {m i:Nat} (h:i<m):ofT (toT m) i=some i:=by
 unfold ofT toT
 rw [List.getElem?_map,List.getElem?_range h];rfl
theorem subL_app {H:zz} {M:Nat} {T:List (Option Nat)} {σ:Nat→Sub}:∀ {A B:List Sub} {b:Nat},SubL H M T σ b A→SubL H M T σ (b+A.length) B→SubL H M T σ b (A++B)
 | [],B,b,_,h=>h
 | x :: A,B,b,h,h2=>⟨h.1,subL_app h.2 (by rwa [List.length_cons,show b+(A.length+1)=b+1+A.length by omega] at h2)⟩
theorem subL_to {H:zz} {M:Nat} {σ:Nat→Sub}:∀ (d b:Nat),b+d≤M→SubL H M (toT M) σ b ((List.range' b d).map .to)
 | 0,b,_=>trivial
 | d+1,b,h=>by
  rw [List.range'_succ,List.map_cons]
  refine ⟨⟨by omega,?_⟩,subL_to d (b+1) (by omega)⟩
  unfold toT
  rw [List.getElem?_map,List.getElem?_range (by omega)];rfl
theorem objL_kp {H X:zz} {M:Nat} {σ:Nat→Sub} {τ:Nat→Option Nat} (hσ:∀ i,i<H.length→σ i=.to i) (hτ:∀ i,i<H.length→τ i=some i) (hk:∀ o∈H,Kp H.length o):∀ (A B:zz),H=A++B→ObjL (H++X) M σ τ A.length B
 | A,[],_=>trivial
 | A,o :: B,h=>by
  have hb:H[A.length]? = some o:=by rw [h];simp
  have hlt:A.length<H.length:=(List.getElem?_eq_some_iff.1 hb).1
  refine ⟨.same A.length o o (by rw [List.getElem?_append_left hlt];exact hb) (hτ _ hlt) (hσ _ hlt) (hk o (List.mem_of_getElem? hb) σ hσ),?_⟩
  have:=objL_kp (X:=X) (M:=M) hσ hτ hk (A++[o]) B (by rw [h];simp)
  simpa using this
theorem xJ {E:Env} {n:Nat} {F F':AFr} {H X:zz} (L:List Sub) (hk:∀ o∈H,Kp H.length o) (hL:SubL (H++X) H.length (toT H.length) (ofL (toS H.length++L)) H.length L) (hF:FWk H.length (ofL (toS H.length++L)) F F') {N:Nat} (hN:N≤H.length):Ent E n N F (H++X) F' H:=by
 refine tQ (toS H.length++L) (toT H.length) ?_ (by simpa [toT] using hN) hN (subL_app ?_ (by simpa [toS] using hL)) (objL_kp (fun i hi=>toS_get hi) (fun i hi=>toT_get hi) hk [] H rfl) hF
 · have key:∀ (d b:Nat),rk b ((List.range' b d).map some):=by
    intro d
    induction d with
    | zero=>intro b;trivial
    | succ d ih=>intro b;rw [List.range'_succ,List.map_cons];exact ⟨rfl,ih (b+1)⟩
   have e:(toT H.length).take N=(List.range' 0 N).map some:=by
    rw [toT,← List.map_take,List.take_range,Nat.min_eq_left hN,List.range_eq_range']
   rw [e];exact key N 0
 · have:=subL_to (H:=H++X) (M:=H.length) (σ:=ofL (toS H.length++L)) H.length 0 (by omega)
   rwa [← List.range_eq_range'] at this
theorem wX {E:Env} {n N:Nat} {F F':AFr} {H:zz} (m:Nat) (L:List Sub) (hm:(H.take m).length=m) (hk:KpA m (H.take m)) (hL:SubL H m (toT m) (ofL (toS m++L)) m L) (hF:FWk m (ofL (toS m++L)) F F') (hN:N≤m):Ent E n N F H F' (H.take m):=by
 have e:H=H.take m++H.drop m:=(List.take_append_drop m H).symm
 have:=xJ (E:=E) (n:=n) (N:=N) (F:=F) (F':=F') (H:=H.take m) (X:=H.drop m) L (by rw [hm];exact hk.mem) (by rw [hm,← e];exact hL) (by rw [hm];exact hF) (by rw [hm];exact hN)
 rwa [← e] at this
end Go.Am
end
