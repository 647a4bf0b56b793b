/- The abstract machine that the walks of this claim are carried out on: no condition. -/
import Derived.Test.YtpdmaimjllhooaaGreatDoorPAm3
import Derived.Test.YtpdmaimjllhooaaGreatDoorPAm4
import Derived.Test.YtpdmaimjllhooaaGreatDoorPAm5
import Derived.ProofKit
import Derived.ReadAgain
import Derived.SizedLaws
import Derived.OpenShut
import Derived.LaidLaws
import Derived.Shelf.Sort.Plain
import Derived.Shelf.Slices.In.SortNone
import Derived.Sort.OwnSortedInts
import Derived.Shelf.Slices.CompactI
import Derived.Shelf.Strings.Cut
import Derived.Shelf.Strings.Split
import Derived.Shelf.Strings.Prefix
import Derived.Shelf.Strings.Builder1
section
namespace Go.Am
open Go.ChangeShapes Go.WideShapes Go.ChangeAt Go.RowKit
mutual
def xy {H:Type}:DataW H→Nat
 | .lit (.string bytes)=>bytes.length+1
 | .lit _=>1
 | .nil=>1
 | .ptr d=>xy d+1
 | .slice elems spare=>dBulkAll elems+dBulkAll spare+1
 | .agg parts=>dBulkAll parts+1
 | .iface _ d=>xy d+1
 | .map entries=>dBulkEntries entries+1
 | .held _=>1
def dBulkAll {H:Type}:List (DataW H)→Nat
 | []=>0
 | d :: r=>xy d+dBulkAll r
def dBulkEntries {H:Type}:List (Lit × DataW H)→Nat
 | []=>0
 | x :: r=>dBulkEntry x+dBulkEntries r
def dBulkEntry {H:Type}:Lit × DataW H→Nat
 | (.string bytes,d)=>bytes.length+xy d+1
 | (_,d)=>xy d+1
end
mutual
def AV.bulk : AV→Nat
 | .isl _ es=>AV.bulkL es+1
 | .agg cs=>AV.bulkL cs+1
 | .val (.string s)=>s.size+1
 | _=>1
def AV.bulkL : List AV→Nat
 | []=>0
 | c :: cs=>AV.bulk c+AV.bulkL cs
end
theorem bulkL_append (a b:List AV):AV.bulkL (a++b)=AV.bulkL a+AV.bulkL b:=by
 induction a with
 | nil=>simp [AV.bulkL]
 | cons x a ih=>simp only [List.cons_append,AV.bulkL,ih];omega
theorem dBulk_pos {H:Type} (d:DataW H):1≤xy d:=by
 cases d with
 | lit l=>cases l<;>simp [xy]
 | _=>simp [xy]
theorem dBulkAll_append {H:Type} (a b:List (DataW H)):dBulkAll (a++b)=dBulkAll a+dBulkAll b:=by
 induction a with
 | nil=>simp [dBulkAll]
 | cons x a ih=>simp only [List.cons_append,dBulkAll,ih];omega
section
variable (P:Program)
def wM (t:TypeId):Bool :=
 match P.underlying t with
 | some d=>xl d
 | none=>false
def El (c:TypeId→List AV→Prop) (e:TypeId) (x:AV):Prop :=
 if wM P e then ∃ cs,x=.agg cs∧c e cs else x.cells=[x]∧c e [x]
def Cl : Nat→TypeId→List AV→Prop
 | 0,_,_=>False
 | n+1,t,cs=>match P.underlying t with
  | some .bool=>∃ b,cs=[.val (.bool b)]
  | some (.int k)=>∃ i,cs=[.val (.int k i)]∧(Lit.int k i).wf=true
  | some .string=>∃ s:ByteArray,cs=[.val (.string s)]∧s.size≤reachBytes
  | some (.slice e)=>∃ es,cs=[.isl (P.cellsOf e) es]∧es.length * P.bytesOf e≤reachBytes∧∀ x∈es,El P (Cl n) e x
  | some (.struct fs)=>∃ css:List (List AV),cs=css.flatten∧css.length=fs.size∧∀ (i:Nat) f c,fs[i]? = some f→css[i]? = some c→Cl n f.type c
  | some (.array m e)=>∃ css:List (List AV),cs=css.flatten∧css.length=m∧∀ c∈css,Cl n e c
  | _=>cs=[.undef]
end
theorem Cl.single {P:Program} {n:Nat} {t:TypeId} {cs:List AV} (h:Cl P n t cs) (ha:wM P t=false):∃ x:AV,cs=[x]∧x.cells=[x]:=by
 cases n with
 | zero=>exact h.elim
 | succ n =>
  unfold wM at ha
  unfold Cl at h
  cases hu:P.underlying t with
  | none=>rw [hu] at h;exact ⟨_,h,rfl⟩
  | some d =>
   rw [hu] at h ha
   cases d with
   | bool=>obtain ⟨b,rfl⟩:=h;exact ⟨_,rfl,rfl⟩
   | int k=>obtain ⟨b,rfl,_⟩:=h;exact ⟨_,rfl,rfl⟩
   | string=>obtain ⟨b,rfl,_⟩:=h;exact ⟨_,rfl,rfl⟩
   | slice e=>obtain ⟨b,rfl,_⟩:=h;exact ⟨_,rfl,rfl⟩
   | struct fs=>simp [xl] at ha
   | array m e=>simp [xl] at ha
   | _=>exact ⟨_,h,rfl⟩
structure Rd {H:Type} (P:Program) (C:Ctx) (w:World) (n:Nat) (t:TypeId) (vs:List Value) (d:DataW H) (cs:List AV):Prop where
 cl:Cl P n t cs
 len:cs.length=vs.length
 rep:∀ (j:Nat) c y,cs[j]? = some c→vs[j]? = some y→VRep C 0 w c y
 bulk:AV.bulkL cs+(if wM P t then 1 else 0)≤xy d
theorem cells?_get {w:World} {base n:Nat} {a:Addr} {vs:List Value} (h:w.cells? base a n=some vs):vs.length=n∧∀ j,j<n→w.cell? (a.add j)=vs[j]?:=by
 unfold World.cells? at h
 split at h
 · exact ⟨by simpa using mapM_some_length h,fun j hj=>mapM_some_get h j j (by simp [hj])⟩
 · cases h
theorem spot_none {w:World} {a:Addr} {v:Value} (h:w.cell? a=some v):a.spot=none∧a.block<w.heap.size:=by
 unfold World.cell? at h
 split at h
 · rename_i c _ _ hh
   refine ⟨?_,(Array.getElem?_eq_some_iff.1 hh).1⟩
   cases hs:a.spot with
   | none=>rfl
   | some s=>rw [hs] at h;simp at h
 · cases h
theorem add_none {a:Addr} (h:a.spot=none) (i j:Nat):(a.add i).add j=⟨a.block,a.off+(i+j),none⟩:=by
 obtain ⟨b,o,s⟩:=a
 simp only at h;subst h
 unfold Addr.add
 by_cases h1:i=0<;>by_cases h2:j=0<;>simp [h1,h2,Nat.add_assoc]
theorem piece_flatten {vs:List Value}:∀ (css:List (List AV)) (offs:List Nat) (R:AV→Value→Prop) (o:Nat),offs.length=css.length→(∀ (i:Nat) c f,css[i]? = some c→offs[i]? = some f→f=o+((css.take i).map List.length).sum) →
 (∀ (i:Nat) c f,css[i]? = some c→offs[i]? = some f→∀ (j:Nat) x y,c[j]? = some x→((vs.drop f).take c.length)[j]? = some y→R x y)→∀ (j:Nat) x y,css.flatten[j]? = some x→(vs.drop o)[j]? = some y→R x y
 | [],_,_,_,_,_,_,j,x,y,hx,_=>by simp at hx
 | c :: css,[],_,_,hl,_,_,_,_,_,_,_=>by simp at hl
 | c :: css,f :: offs,R,o,hl,ho,hR,j,x,y,hx,hy=>by
  have hf:f=o:=by simpa using ho 0 c f rfl rfl
  rw [List.flatten_cons] at hx
  by_cases hj:j<c.length
  · rw [List.getElem?_append_left hj] at hx
    refine hR 0 c f rfl rfl j x y hx ?_
    rw [hf,List.getElem?_take_of_lt hj]
    exact hy
  · rw [List.getElem?_append_right (by omega)] at hx
    refine piece_flatten css offs R (o+c.length) (by simpa using hl) (fun i c' f' hc hf'=>?_) (fun i c' f' hc hf'=>hR (i+1) c' f' (by simpa using hc) (by simpa using hf')) (j - c.length) x y hx ?_
    · have:=ho (i+1) c' f' (by simpa using hc) (by simpa using hf')
      rw [List.take_succ_cons,List.map_cons,List.sum_cons] at this;omega
    · rw [List.getElem?_drop] at hy ⊢
      rw [← hy];congr 1;omega
theorem sum_take_le (ks:List Nat) (i:Nat) (k:Nat) (h:ks[i]? = some k):(ks.take i).sum+k≤ks.sum:=by
 induction ks generalizing i with
 | nil=>simp at h
 | cons x ks ih =>
  cases i with
  | zero=>simp at h;subst h;simp
  | succ i=>have:=ih i (by simpa using h);simp only [List.take_succ_cons,List.sum_cons];omega
theorem pieces {H:Type} {P:Program} {C:Ctx} {w:World} {vs:List Value} {n:Nat} (ks:List Nat) (ts:List TypeId) (ds:List (DataW H)) (css:List (List AV)) (hl:css.length=ks.length) (hd:ds.length=ks.length) (ht:ts.length=ks.length) (hs:vs.length=ks.sum)
 (h:∀ (i:Nat) k t d c,ks[i]? = some k→ts[i]? = some t→ds[i]? = some d→css[i]? = some c→Rd P C w n t ((vs.drop (ks.take i).sum).take k) d c) :
 css.flatten.length=vs.length∧(∀ (j:Nat) c y,css.flatten[j]? = some c→vs[j]? = some y→VRep C 0 w c y)∧AV.bulkL css.flatten≤dBulkAll ds:=by
 have hlen:∀ (i:Nat) k c,ks[i]? = some k→css[i]? = some c→c.length=k:=by
  intro i k c hk hc
  obtain ⟨t,ht'⟩:∃ t,ts[i]? = some t:=⟨_,List.getElem?_eq_getElem (by have:=(List.getElem?_eq_some_iff.1 hk).1;omega)⟩
  obtain ⟨d,hd'⟩:∃ d,ds[i]? = some d:=⟨_,List.getElem?_eq_getElem (by have:=(List.getElem?_eq_some_iff.1 hk).1;omega)⟩
  have:=(h i k t d c hk ht' hd' hc).len
  have h2:=sum_take_le ks i k hk
  simp at this;omega
 have hmap:css.map List.length=ks:=by
  apply List.ext_getElem?
  intro i
  rw [List.getElem?_map]
  cases hc:css[i]? with
  | none=>simp at hc;simp;omega
  | some c =>
   obtain ⟨k,hk⟩:∃ k,ks[i]? = some k:=⟨_,List.getElem?_eq_getElem (by have:=(List.getElem?_eq_some_iff.1 hc).1;omega)⟩
   rw [hk];simp [hlen i k c hk hc]
 refine ⟨by rw [List.length_flatten,hmap,hs],fun j c y hc hy=>?_,?_⟩
 · refine piece_flatten css ((List.range css.length).map fun i=>(ks.take i).sum) (VRep C 0 w) 0 (by simp) (fun i c f hc hf=>?_) (fun i c f hc hf j x y hx hy=>?_) j c y hc (by simpa using hy)
   · have hi:i<css.length:=(List.getElem?_eq_some_iff.1 hc).1
     simp [hi] at hf;subst hf
     rw [← hmap,List.map_take];simp
   · have hi:i<css.length:=(List.getElem?_eq_some_iff.1 hc).1
     simp [hi] at hf;subst hf
     obtain ⟨k,hk⟩:∃ k,ks[i]? = some k:=⟨_,List.getElem?_eq_getElem (by omega)⟩
     obtain ⟨t,ht'⟩:∃ t,ts[i]? = some t:=⟨_,List.getElem?_eq_getElem (by omega)⟩
     obtain ⟨d,hd'⟩:∃ d,ds[i]? = some d:=⟨_,List.getElem?_eq_getElem (by omega)⟩
     rw [hlen i k c hk hc] at hy
     exact (h i k t d c hk ht' hd' hc).rep j x y hx hy
 · clear hmap hlen
   have hb:∀ (i:Nat) c d,css[i]? = some c→ds[i]? = some d→AV.bulkL c≤xy d:=by
    intro i c d hc hd'
    have hi:i<css.length:=(List.getElem?_eq_some_iff.1 hc).1
    obtain ⟨k,hk⟩:∃ k,ks[i]? = some k:=⟨_,List.getElem?_eq_getElem (by omega)⟩
    obtain ⟨t,ht'⟩:∃ t,ts[i]? = some t:=⟨_,List.getElem?_eq_getElem (by omega)⟩
    have:=(h i k t d c hk ht' hd' hc).bulk
    omega
   have hl':css.length=ds.length:=by omega
   clear h hl hd ht hs
   induction css generalizing ds with
   | nil=>simp [AV.bulkL]
   | cons c css ih =>
    cases ds with
    | nil=>simp at hl'
    | cons d ds =>
     rw [List.flatten_cons,bulkL_append]
     have:=hb 0 c d rfl rfl
     have:=ih ds (fun i c d hc hd'=>hb (i+1) c d (by simpa using hc) (by simpa using hd')) (by simpa using hl')
     simp only [dBulkAll];omega
theorem Rd.elem {H:Type} {P:Program} {C:Ctx} {w:World} {n:Nat} {t:TypeId} {vs:List Value} {d:DataW H} {cs:List AV} (h:Rd P C w n t vs d cs):∃ x:AV,x.cells=cs∧El P (Cl P n) t x∧x.bulk≤xy d:=by
 unfold El
 have hb:=h.bulk
 by_cases ha:wM P t=true
 · refine ⟨.agg cs,rfl,by rw [if_pos ha];exact ⟨cs,rfl,h.cl⟩,?_⟩
   rw [if_pos ha] at hb
   simpa [AV.bulk] using hb
 · obtain ⟨x,rfl,hx⟩:=h.cl.single (by simpa using ha)
   refine ⟨x,hx,by rw [if_neg ha];exact ⟨hx,h.cl⟩,?_⟩
   rw [if_neg ha] at hb
   simpa [AV.bulkL] using hb
theorem list_of {α:Type} [Inhabited α] {n:Nat} {p:Nat→α→Prop} (h:∀ i,i<n→∃ x,p i x):∃ l:List α,l.length=n∧∀ (i:Nat) x,l[i]? = some x→p i x:=by
 induction n with
 | zero=>exact ⟨[],rfl,fun i x hx=>by simp at hx⟩
 | succ n ih =>
  obtain ⟨l,hl,hp⟩:=ih fun i hi=>h i (by omega)
  obtain ⟨x,hx⟩:=h n (by omega)
  refine ⟨l++[x],by simp [hl],fun i y hy=>?_⟩
  by_cases hi:i<n
  · rw [List.getElem?_append_left (by omega)] at hy;exact hp i y hy
  · rw [List.getElem?_append_right (by omega)] at hy
    have:i=n:=by
     have:=(List.getElem?_eq_some_iff.1 hy).1
     simp at this;omega
    subst this
    simp [hl] at hy;subst hy;exact hx
theorem weightsAll_mem {H:Type} {P:Program} {e:TypeId} {d:DataW H} {m:Nat}:∀ {l:List (DataW H)},d∈l→m∈d.weights P e→m∈DataW.weightsAll P e l
 | x :: l,h,hm=>by
  simp only [DataW.weightsAll,List.mem_append]
  rcases List.mem_cons.1 h with rfl | h
  · exact .inl hm
  · exact .inr (weightsAll_mem h hm)
theorem weightsEach_mem {H:Type} {P:Program} {t:TypeId} {d:DataW H} {m:Nat}:∀ {ts:List TypeId} {l:List (DataW H)} {i:Nat},ts[i]? = some t→l[i]? = some d→m∈d.weights P t→m∈DataW.weightsEach P ts l
 | [],_,_,h,_,_=>by simp at h
 | _ :: _,[],_,_,h,_=>by simp at h
 | t' :: ts,x :: l,0,h1,h2,hm=>by
  simp at h1 h2;subst h1;subst h2
  simp only [DataW.weightsEach,List.mem_append];exact .inl hm
 | t' :: ts,x :: l,i+1,h1,h2,hm=>by
  simp only [DataW.weightsEach,List.mem_append];exact .inr (weightsEach_mem (by simpa using h1) (by simpa using h2) hm)
theorem read_cells {H:Type} {enc:TypeId × Value→H} {P:Program} {T:TypeId→Prop} (K:Kids P T) (hz:∀ t e,T t→P.underlying t=some (.slice e)→0<P.cellsOf e) {C:Ctx} {w:World} (hI:∀ b,b<w.heap.size→C.I b) {sp:Nat→Bool} {hd:Bool} :
 ∀ (n:Nat) (t:TypeId) (vs:List Value) (x:DataW H × List MemPlace),T t→DataW.trod enc P w 0 sp hd n t vs=some x→(∀ m∈x.1.weights P t,m≤reachBytes)→∃ cs,Rd P C w n t vs x.1 cs:=by
 intro n
 induction n with
 | zero=>intro t vs x _ h;simp [DataW.trod] at h
 | succ n ih =>
  intro t vs x hT h hwt
  have one:∀ (c:AV) (v:Value) (d:DataW H),Cl P (n+1) t [c]→VRep C 0 w c v→c.bulk≤xy d→wM P t=false→Rd P C w (n+1) t [v] d [c]:=by
   intro c v d h1 h2 h3 h4
   refine ⟨h1,rfl,fun j c' y hc hy=>?_,by rw [h4];simpa [AV.bulkL] using h3⟩
   cases j with
   | zero=>simp at hc hy;subst hc;subst hy;exact h2
   | succ j=>simp at hc
  cases hu:P.underlying t with
  | none=>exfalso;unfold DataW.trod at h;rw [hu] at h;simp at h
  | some d =>
   have other:Cl P (n+1) t [.undef]→xl d=false→(∃ v,vs=[v])→∃ cs,Rd P C w (n+1) t vs x.1 cs:=by
    rintro h1 h2 ⟨v,rfl⟩
    exact ⟨_,one .undef v x.1 h1 (.undef _) (dBulk_pos _) (by simp [wM,hu,h2])⟩
   cases d with
   | bool =>
    obtain ⟨b,rfl,rfl⟩:=DataW.trod_bool hu h
    exact ⟨_,one (.val (.bool b)) _ _ (by simp [Cl,hu]) (.val _ (by intro cs;simp)) (dBulk_pos _) (by simp [wM,hu,xl])⟩
   | int k =>
    obtain ⟨b,rfl,rfl,hw⟩:=DataW.trod_int hu h
    exact ⟨_,one (.val (.int k b)) _ _ (by simp [Cl,hu,hw]) (.val _ (by intro cs;simp)) (dBulk_pos _) (by simp [wM,hu,xl])⟩
   | string =>
    obtain ⟨b,rfl,rfl,hw⟩:=DataW.trod_string hu h
    exact ⟨_,one (.val (.string b)) _ _ (by simp only [Cl,hu];exact ⟨b,rfl,by have:=hwt b.data.toList.length (by simp [DataW.weights]);rwa [Array.length_toList] at this⟩) (.val _ (by intro cs;simp)) (by rw [AV.bulk];simp only [xy,Array.length_toList];exact Nat.le_refl _) (by simp [wM,hu,xl])⟩
   | slice e =>
    have hk:=hz t e hT hu
    rcases DataW.trod_slice hu h with ⟨rfl,rfl⟩ | ⟨a,len,cap,elems,rest,m,hm,rfl,rfl,hb,hl,hc,hlen,hel,_,_⟩
    · exact ⟨_,one (.isl (P.cellsOf e) []) _ _ (by simp [Cl,hu]) (.islnil _) (by simp [AV.bulk,AV.bulkL,xy]) (by simp [wM,hu,xl])⟩
    · obtain rfl:n=m:=by omega
      have hex:∀ i,i<len→∃ e':AV,∃ (vs':List Value) (y:DataW H × List MemPlace) (cs:List AV),w.cells? 0 (a.add (i * P.cellsOf e)) (P.cellsOf e)=some vs'∧elems[i]? = some y∧Rd P C w n e vs' y.1 cs∧e'.cells=cs∧El P (Cl P n) e e'∧e'.bulk≤xy y.1:=by
       intro i hi
       have h1:=hel i hi
       obtain ⟨y,hy⟩:∃ y,elems[i]? = some y:=⟨_,List.getElem?_eq_getElem (by omega)⟩
       rw [hy] at h1
       obtain ⟨vs',h2,h3⟩:=Option.bind_eq_some_iff.1 h1
       obtain ⟨cs,hr⟩:=ih e vs' y (K.slice hT hu) h3 (fun m hm=>hwt m (by
        simp only [DataW.weights,hu]
        exact List.mem_cons_of_mem _ (List.mem_append_left _ (weightsAll_mem (List.mem_map.2 ⟨y,List.mem_of_getElem? hy,rfl⟩) hm))))
       obtain ⟨e',g1,g2,g3⟩:=hr.elem
       exact ⟨e',vs',y,cs,h2,hy,hr,g1,g2,g3⟩
      obtain ⟨es,hes,hp⟩:=list_of hex
      refine ⟨_,one (.isl (P.cellsOf e) es) _ _ ?_ ?_ ?_ (by simp [wM,hu,xl])⟩
      · simp only [Cl,hu]
        refine ⟨es,rfl,?_,fun x hx=>?_⟩
        · have:=hwt (((elems.map (·.1)).length+(rest.map (·.1)).length) * P.bytesOf e) (by simp only [DataW.weights,hu];exact List.mem_cons_self)
          refine Nat.le_trans (Nat.mul_le_mul_right _ ?_) this
          simp only [List.length_map];omega
        obtain ⟨i,hi,rfl⟩:=List.getElem_of_mem hx
        obtain ⟨_,_,_,_,_,_,_,h5,_⟩:=hp i _ (List.getElem?_eq_getElem hi)
        exact h5
      · have cell:∀ (i:Nat) e' (j:Nat) c,es[i]? = some e'→e'.cells[j]? = some c→∃ v,w.cell? ((a.add (i * P.cellsOf e)).add j)=some v∧VRep C 0 w c v∧e'.cells.length=P.cellsOf e:=by
         intro i e' j c he hc
         obtain ⟨vs',y,cs,h1,h2,h3,h4,h5,h6⟩:=hp i e' he
         obtain ⟨g1,g2⟩:=cells?_get h1
         rw [h4] at hc ⊢
         have hj:j<cs.length:=(List.getElem?_eq_some_iff.1 hc).1
         have hjl:=h3.len
         obtain ⟨v,hv⟩:∃ v,vs'[j]? = some v:=⟨_,List.getElem?_eq_getElem (by omega)⟩
         refine ⟨v,?_,h3.rep j c v hc hv,by omega⟩
         rw [g2 j (by omega),hv]
        have hlenk:∀ (i:Nat) e',es[i]? = some e'→e'.cells.length=P.cellsOf e:=by
         intro i e' he
         obtain ⟨vs',y,cs,h1,h2,h3,h4,h5,h6⟩:=hp i e' he
         rw [h4,h3.len];exact (cells?_get h1).1
        have hne:es≠[]→C.I a.block∧a.spot=none:=by
         intro hne
         obtain ⟨e',he⟩:∃ e',es[0]? = some e':=⟨_,List.getElem?_eq_getElem (List.length_pos_iff.2 hne)⟩
         obtain ⟨c,hc⟩:∃ c,e'.cells[0]? = some c:=⟨_,List.getElem?_eq_getElem (by rw [hlenk 0 e' he];exact hk)⟩
         obtain ⟨v,hv,_⟩:=cell 0 e' 0 c he hc
         have e0:(a.add (0 * P.cellsOf e)).add 0=a:=by simp [Addr.add]
         rw [e0] at hv
         have:=spot_none hv
         exact ⟨hI _ this.2,this.1⟩
        rw [← hes]
        rw [← hes] at hl
        refine .isl (P.cellsOf e) es (fun i j=>(w.cell? ⟨a.block,a.off+(i * P.cellsOf e+j),none⟩).getD undef) a cap hl hne hlenk (fun i e' j c he hc=>?_) (fun i e' j c he hc=>?_)
        all_goals
         have hne':=(hne (by rintro rfl;simp at he)).2
         obtain ⟨v,hv,hr,_⟩:=cell i e' j c he hc
         rw [add_none hne'] at hv
         rw [hv]
        · rfl
        · exact hr
      · simp only [AV.bulk,xy]
        have:AV.bulkL es≤dBulkAll (elems.map (·.1)):=by
         have hb:∀ (i:Nat) e' y,es[i]? = some e'→elems[i]? = some y→e'.bulk≤xy y.1:=by
          intro i e' y he hy
          obtain ⟨vs',y',cs,h1,h2,h3,h4,h5,h6⟩:=hp i e' he
          rw [hy] at h2;cases h2;exact h6
         have hll:es.length=elems.length:=by omega
         clear hp hes hel hex hlen h one other hl hwt
         induction es generalizing elems with
         | nil=>simp [AV.bulkL]
         | cons e' es ih' =>
          cases elems with
          | nil=>simp at hll
          | cons y elems =>
           have:=hb 0 e' y rfl rfl
           have:=ih' elems (fun i e' y he hy=>hb (i+1) e' y (by simpa using he) (by simpa using hy)) (by simpa using hll)
           simp only [AV.bulkL,List.map_cons,dBulkAll];omega
        omega
   | struct fs =>
    obtain ⟨xs,m,hm,rfl,hcl,hxs,hf⟩:=DataW.trod_struct hu h
    obtain rfl:n=m:=by omega
    obtain ⟨hk1,hk2,hk3⟩:=K.struct hT hu
    have hex:∀ i,i<fs.size→∃ c:List AV,∃ (f:Field) (y:DataW H × List MemPlace),fs[i]? = some f∧xs[i]? = some y∧Rd P C w n f.type ((vs.drop f.offset).take (P.cellsOf f.type)) y.1 c:=by
     intro i hi
     obtain ⟨f,hfi⟩:∃ f,fs[i]? = some f:=⟨_,Array.getElem?_eq_getElem hi⟩
     obtain ⟨y,hy⟩:∃ y,xs[i]? = some y:=⟨_,List.getElem?_eq_getElem (by omega)⟩
     have h1:=hf i f hfi
     rw [hy] at h1
     obtain ⟨cs,hr⟩:=ih f.type _ y (hk1 f (by rw [List.mem_iff_getElem?];exact ⟨i,by simpa using hfi⟩)) h1 (fun m hm=>hwt m (by
      simp only [DataW.weights,hu]
      exact weightsEach_mem (i:=i) (by rw [List.getElem?_map];simp [hfi]) (by rw [List.getElem?_map,hy];rfl) hm))
     exact ⟨cs,f,y,hfi,hy,hr⟩
    obtain ⟨css,hcs,hp⟩:=list_of hex
    have hR:∀ (i:Nat) k t d c,(fs.toList.map fun f=>P.cellsOf f.type)[i]? = some k→(fs.toList.map (·.type))[i]? = some t→(xs.map (·.1))[i]? = some d→css[i]? = some c→Rd P C w n t ((vs.drop ((fs.toList.map fun f=>P.cellsOf f.type).take i).sum).take k) d c:=by
     intro i k t d c h1 h2 h3 h4
     obtain ⟨f,y,g1,g2,g3⟩:=hp i c h4
     have hfl:fs.toList[i]? = some f:=by simpa using g1
     rw [List.getElem?_map,hfl] at h1 h2
     rw [List.getElem?_map,g2] at h3
     simp at h1 h2 h3;subst h1;subst h2;subst h3
     have:=hk3 i f hfl
     rw [List.map_take] at this
     rw [← this];exact g3
    obtain ⟨a1,a2,a3⟩:=pieces (n:=n) (fs.toList.map fun f=>P.cellsOf f.type) (fs.toList.map (·.type)) (xs.map (·.1)) css (by simp [hcs]) (by simp [hxs]) (by simp) (by rw [hcl,hk2]) hR
    refine ⟨css.flatten,?_,a1,a2,?_⟩
    · simp only [Cl,hu]
      refine ⟨css,rfl,hcs,fun i f c hfi hc=>?_⟩
      obtain ⟨f',y,g1,g2,g3⟩:=hp i c hc
      rw [hfi] at g1;cases g1;exact g3.cl
    · simp only [wM,hu,xl,if_true,xy];omega
   | array m e =>
    obtain ⟨xs,m',hm,rfl,hcl,hxs,hf⟩:=DataW.trod_array hu h
    obtain rfl:n=m':=by omega
    obtain ⟨hk1,hk2⟩:=K.array hT hu
    have hex:∀ i,i<m→∃ c:List AV,∃ (y:DataW H × List MemPlace),xs[i]? = some y∧Rd P C w n e ((vs.drop (i * P.cellsOf e)).take (P.cellsOf e)) y.1 c:=by
     intro i hi
     obtain ⟨y,hy⟩:∃ y,xs[i]? = some y:=⟨_,List.getElem?_eq_getElem (by omega)⟩
     have h1:=hf i hi
     rw [hy] at h1
     obtain ⟨cs,hr⟩:=ih e _ y hk1 h1 (fun m hm=>hwt m (by
      simp only [DataW.weights,hu]
      exact weightsAll_mem (List.mem_map.2 ⟨y,List.mem_of_getElem? hy,rfl⟩) hm))
     exact ⟨cs,y,hy,hr⟩
    obtain ⟨css,hcs,hp⟩:=list_of hex
    have hsum:∀ i,i≤m→((List.replicate m (P.cellsOf e)).take i).sum=i * P.cellsOf e:=by
     intro i hi
     rw [List.take_replicate];simp [Nat.min_eq_left hi]
    have hR:∀ (i:Nat) k t d c,(List.replicate m (P.cellsOf e))[i]? = some k→(List.replicate m e)[i]? = some t→(xs.map (·.1))[i]? = some d→css[i]? = some c→Rd P C w n t ((vs.drop ((List.replicate m (P.cellsOf e)).take i).sum).take k) d c:=by
     intro i k t d c h1 h2 h3 h4
     obtain ⟨y,g2,g3⟩:=hp i c h4
     have hi:i<m:=by have:=(List.getElem?_eq_some_iff.1 h4).1;omega
     rw [List.getElem?_map,g2] at h3
     simp [hi] at h1 h2 h3;subst h1;subst h2;subst h3
     rw [hsum i (by omega)];exact g3
    obtain ⟨a1,a2,a3⟩:=pieces (n:=n) (List.replicate m (P.cellsOf e)) (List.replicate m e) (xs.map (·.1)) css (by simp [hcs]) (by simp [hxs]) (by simp) (by rw [hcl,hk2];simp) hR
    refine ⟨css.flatten,?_,a1,a2,?_⟩
    · simp only [Cl,hu]
      refine ⟨css,rfl,hcs,fun c hc=>?_⟩
      obtain ⟨i,hi,rfl⟩:=List.getElem_of_mem hc
      obtain ⟨y,g2,g3⟩:=hp i _ (List.getElem?_eq_getElem hi)
      exact g3.cl
    · simp only [wM,hu,xl,if_true,xy];omega
   | _=>exact other (by simp [Cl,hu]) rfl (by clear hwt ih one other hz hI K;unfold DataW.trod at h;rw [hu] at h;split at h<;>simp_all)
end Go.Am
end
section
namespace Go.Am
open Go.ChangeShapes Go.WideShapes Go.ChangeAt Go.RowKit
def ElAll (P:Program):List TypeId→List AV→Prop
 | [],[]=>True
 | t :: ts,x :: xs=>(∃ n,El P (Cl P n) t x)∧ElAll P ts xs
 | _,_=>False
theorem cells_of_ok {P:Program} {w:World} {b:Nat} {t:TypeId} {v:Value} (h:Value.okWide P w .any b t v):(wM P t=true∧∃ cs,v=.agg cs)∨(wM P t=false∧v.cells.toList=[v]∧∀ cs,v≠.agg cs):=by
 unfold Value.okWide at h
 unfold wM
 cases hu:P.underlying t with
 | none=>rw [hu] at h;simp [Cell.okWide,Cell.ok,hu] at h
 | some d =>
  rw [hu] at h
  cases d with
  | struct fs=>obtain ⟨cs,rfl,_⟩:=h;exact .inl ⟨rfl,cs,rfl⟩
  | array m e=>obtain ⟨cs,rfl,_⟩:=h;exact .inl ⟨rfl,cs,rfl⟩
  | _ =>
   right
   refine ⟨rfl,?_⟩
   cases v with
   | agg cs=>simp [Cell.okWide,Cell.ok,hu] at h
   | tuple cs=>simp [Cell.okWide,Cell.ok,hu] at h
   | _=>exact ⟨rfl,by intro cs;simp⟩
theorem Rd.arg {H:Type} {P:Program} {C:Ctx} {w:World} {n:Nat} {t:TypeId} {v:Value} {d:DataW H} {cs:List AV} {b:Nat} (h:Rd P C w n t v.cells.toList d cs) (hok:Value.okWide P w .any b t v) :
 ∃ x,VRep C 0 w x v∧El P (Cl P n) t x∧x.bulk≤xy d:=by
 have hb:=h.bulk
 unfold El
 rcases cells_of_ok hok with ⟨ha,vs,rfl⟩ | ⟨ha,hv,_⟩
 · rw [ha,if_pos rfl] at hb
   refine ⟨.agg cs,?_,by rw [ha,if_pos rfl];exact ⟨cs,rfl,h.cl⟩,by simpa [AV.bulk] using hb⟩
   have:=VRep.agg cs vs.toList (K:=C) (M:=0) (w:=w) (by simpa [Value.cells] using h.len) (fun i c y hc hy=>h.rep i c y hc (by simpa [Value.cells] using hy))
   simpa using this
 · obtain ⟨x,rfl,hx⟩:=h.cl.single ha
   rw [hv] at h
   rw [ha] at hb
   exact ⟨x,h.rep 0 x v rfl rfl,by rw [ha];exact ⟨hx,h.cl⟩,by simpa [AV.bulkL] using hb⟩
theorem read_args {H:Type} {enc:TypeId × Value→H} {P:Program} {T:TypeId→Prop} (K:Kids P T) (hz:∀ t e,T t→P.underlying t=some (.slice e)→0<P.cellsOf e) {C:Ctx} {w:World} (hI:∀ b,b<w.heap.size→C.I b) {b:Nat} :
 ∀ (ts:List TypeId) (vs:List Value) (ds:List (DataW H)) (ps:List MemPlace),(∀ t∈ts,T t)→DataW.TrodAll enc P w 0 (fun _=>true) true ts vs ds ps→(∀ (j:Nat) t v,ts[j]? = some t→vs[j]? = some v→Value.okWide P w .any b t v)→(∀ m∈DataW.weightsEach P ts ds,m≤reachBytes) →
  ∃ xs,VReps C 0 w xs vs∧ElAll P ts xs∧AV.bulkL xs≤dBulkAll ds
 | [],[],[],_,_,_,_,_=>⟨[],⟨rfl,fun i x y h=>by simp at h⟩,trivial,by simp [AV.bulkL]⟩
 | t :: ts,v :: vs,d :: ds,ps,hT,h,hok,hwt=>by
  obtain ⟨p,q,⟨n,hn⟩,h2,_⟩:=h
  obtain ⟨xs,g1,g2,g3⟩:=read_args K hz hI ts vs ds q (fun t ht=>hT t (List.mem_cons_of_mem _ ht)) h2 (fun j t v ht hv=>hok (j+1) t v (by simpa using ht) (by simpa using hv)) (fun m hm=>hwt m (by simp only [DataW.weightsEach,List.mem_append];exact .inr hm))
  obtain ⟨cs,hr⟩:=read_cells K hz hI n t _ _ (hT t List.mem_cons_self) hn (fun m hm=>hwt m (by simp only [DataW.weightsEach,List.mem_append];exact .inl hm))
  obtain ⟨x,k1,k2,k3⟩:=hr.arg (hok 0 t v rfl rfl)
  dsimp only at k3
  refine ⟨x :: xs,⟨by simp [g1.1],fun i x' y' hx hy=>?_⟩,⟨⟨n,k2⟩,g2⟩,by simp only [AV.bulkL,dBulkAll];omega⟩
  cases i with
  | zero=>simp at hx hy;subst hx;subst hy;exact k1
  | succ i=>exact g1.2 i x' y' (by simpa using hx) (by simpa using hy)
 | [],[],_ :: _,_,_,h,_,_=>by simp [DataW.TrodAll] at h
 | [],_ :: _,[],_,_,h,_,_=>by simp [DataW.TrodAll] at h
 | [],_ :: _,_ :: _,_,_,h,_,_=>by simp [DataW.TrodAll] at h
 | _ :: _,[],[],_,_,h,_,_=>by simp [DataW.TrodAll] at h
 | _ :: _,[],_ :: _,_,_,h,_,_=>by simp [DataW.TrodAll] at h
 | _ :: _,_ :: _,[],_,_,h,_,_=>by simp [DataW.TrodAll] at h
theorem TrodAll_carry {H:Type} {enc:TypeId × Value→H} {P:Program} {w w':World} {base:Nat} {sp:Nat→Bool} {hd:Bool}:∀ (ts:List TypeId) (vs:List Value) (ds:List (DataW H)) (ps:List MemPlace),
 DataW.TrodAll enc P w base sp hd ts vs ds ps→(∀ p∈ps,w.sameAt w' p)→DataW.TrodAll enc P w' base sp hd ts vs ds ps
 | [],[],[],_,h,_=>h
 | t :: ts,v :: vs,d :: ds,ps,h,hs=>by
  obtain ⟨p,q,⟨n,hn⟩,h2,rfl⟩:=h
  exact ⟨p,q,⟨n,DataW.trod_carry n _ _ _ hn fun x hx=>hs x (List.mem_append_left _ hx)⟩,TrodAll_carry ts vs ds q h2 fun x hx=>hs x (List.mem_append_right _ hx),rfl⟩
 | [],[],_ :: _,_,h,_=>by simp [DataW.TrodAll] at h
 | [],_ :: _,[],_,h,_=>by simp [DataW.TrodAll] at h
 | [],_ :: _,_ :: _,_,h,_=>by simp [DataW.TrodAll] at h
 | _ :: _,[],[],_,h,_=>by simp [DataW.TrodAll] at h
 | _ :: _,[],_ :: _,_,h,_=>by simp [DataW.TrodAll] at h
 | _ :: _,_ :: _,[],_,h,_=>by simp [DataW.TrodAll] at h
def Held (w w':World):Prop:=(∀ b,b<w.heap.size→w'.heap[b]? = w.heap[b]?)∧w'.os=w.os∧w'.output=w.output
theorem Held.same {w w':World} (h:Held w w') (p:MemPlace) (hp:p.block<w.heap.size):w.sameAt w' p:=by
 have:=h.1 _ hp
 cases p with
 | cell b o=>simp only [MemPlace.block] at this;simp only [World.sameAt,World.cell?];rw [this]
 | map b=>simp only [MemPlace.block] at this;simp only [World.sameAt];rw [this]
theorem Held.kept {w w':World} (h:Held w w') (may:MemPlace→Prop):w.keptBut w' may:=by
 refine ⟨h.2.1,h.2.2,fun i hi=>?_⟩
 rw [h.1 i hi]
 obtain ⟨o,ho⟩:∃ o,w.heap[i]? = some o:=⟨_,Array.getElem?_eq_getElem hi⟩
 rw [ho]
 cases o with
 | cells c t fr=>exact ⟨rfl,rfl,rfl,fun j _=>rfl⟩
 | map es clock=>exact .inr ⟨rfl,rfl⟩
 | _=>rfl
theorem Held.frozen {w w':World} (h:Held w w') (a:Addr) (ha:a.block<w.heap.size):w'.frozen? a=w.frozen? a:=by
 unfold World.frozen?;rw [h.1 _ ha]
theorem law_postG {H:Type} {enc:TypeId × Value→H} {E:Env} {f:FuncId} {fn:Func} {s:ChangeSpec} {fresh handsOn again:Bool} (K:Kids E.P (· < E.P.types.size)) (hz:∀ t e,t<E.P.types.size→E.P.underlying t=some (.slice e)→0<E.P.cellsOf e)
 (hvars:s.vars=[]) (hts:∀ t∈fn.params.toList,t<E.P.types.size) {tb:TypeId} (hres:fn.resultTypes = #[tb]) (hb:E.P.underlying tb=some .bool) (hspec:∀ ds:List (DataW H),ds.length=fn.params.size→s.fn H ds=⟨[.lit (.bool true)],ds,[]⟩)
 {W:World} (hglob:∀ g,VRep ⟨fun _=>none,fun b=>b<W.heap.size⟩ 0 W (E.G g) (.pointer (some ⟨g,0,none⟩))) {base:Nat} {args:Array Value} {ds gs:List (DataW H)} {before:List MemPlace} (hval:∀ (j:Nat) t v,fn.params[j]? = some t→args[j]? = some v→Value.okWide E.P W .any base t v)
 (hW:DataW.Whole enc E.P fn.params.toList s.vars false W args.toList ds gs before)
 (hwt:(DataW.weightsEach E.P (fn.params.toList++s.plain.varTypes E.P) (ds++gs)).all (·≤reachBytes)=true)
 (hlaw:∀ xs,ElAll E.P fn.params.toList xs→AV.bulkL xs≤dBulkAll ds→PCall E f xs (.val (.bool true))) :
 Calls E.P f args W fun e W'=>∃ v,e=.returned v∧s.post enc E.P fn false fresh handsOn again W args v W':=by
 have hW':=hW
 obtain ⟨p,q,hA,hV,rfl,hfz,_⟩:=hW
 rw [hvars] at hV
 obtain ⟨rfl,rfl⟩:=trodVars_none hV
 simp only [List.append_nil] at hW' hfz
 have hlt:∀ x∈p,x.block<W.heap.size:=fun x hx=>by simpa using hW'.lt x hx
 obtain ⟨xs,h1,h2,h3⟩:=read_args (C:=⟨fun _=>none,fun b=>b<W.heap.size⟩) (b:=base) K hz (fun b hb=>hb) fn.params.toList args.toList ds p hts hA (fun j t v ht hv=>hval j t v (by simpa using ht) (by simpa using hv)) (fun m hm=>by
  have:s.plain.varTypes E.P=[]:=by simp [ChangeSpec.plain,DataSpec.varTypes,hvars]
  rw [this] at hwt
  simp only [List.append_nil] at hwt
  exact of_decide_eq_true (List.all_eq_true.1 hwt m hm))
 have hh:HRep E ⟨fun _=>none,fun b=>b<W.heap.size⟩ W []:=by
  refine ⟨fun b o h=>by simp at h,fun b b' o o' _ _ _ h=>by simp at h,fun b ⟨_,_,_,h,_⟩=>by simp at h,fun b hb=>hb,hglob⟩
 have hl:=(hlaw xs h2 h3).2 _ W args.toList hh h1
 rw [show args.toList.toArray=args from rfl] at hl
 refine hl.mono fun e W'=>?_
 rintro ⟨v,y,H',K',rfl,⟨rfl,rfl⟩,hh',hv,ev⟩
 cases hv with
 | val _ _ =>
 have held:Held W W':=⟨fun b hb=>ev.frame b hb (by rintro ⟨_,_,_,h,_⟩;simp at h),ev.os,ev.out⟩
 have hdl:ds.length=fn.params.size:=by
  have:∀ (ts:List TypeId) (vs:List Value) (ds:List (DataW H)) (ps:List MemPlace),DataW.TrodAll enc E.P W 0 (fun _=>true) true ts vs ds ps→ds.length=ts.length:=by
   intro ts
   induction ts with
   | nil=>intro vs ds ps h;cases vs<;>cases ds<;>simp_all [DataW.TrodAll]
   | cons t ts ih =>
    intro vs ds ps h
    cases vs with
    | nil=>simp [DataW.TrodAll] at h
    | cons v vs =>
     cases ds with
     | nil=>simp [DataW.TrodAll] at h
     | cons d ds=>obtain ⟨_,_,_,h2,_⟩:=h;simp [ih _ _ _ h2]
  simpa using this _ _ _ _ hA
 have hfn:=hspec ds hdl
 have hA':∀ sp:Nat→Bool,(∀ x∈p,sp x.block=true)→DataW.TrodAll enc E.P W' 0 sp true fn.params.toList args.toList ds p:=fun sp hsp =>
  TrodAll_carry _ _ _ _ (DataW.TrodAll.respare K hz hts hA hsp) fun x hx=>held.same x (hlt x hx)
 have hR:∀ (b:Nat) (sp:Nat→Bool) (hd:Bool),DataW.TrodAll enc E.P W' b sp hd fn.resultTypes.toList ((Value.bool true).resultList fn.resultTypes.size) [.lit (.bool true)] []:=fun b sp hd=>by
  rw [hres];exact trodAll_mk1 (shut_bool hb true)
 have hVn:∀ sp:Nat→Bool,DataW.TrodVars enc E.P W' sp s.vars ([]:List (DataW H)) []:=fun sp=>by rw [hvars];rfl
 refine ⟨_,rfl,ds,[],p,[],p,[],hW',?_,?_,?_,held.kept _,fun _=>⟨?_,?_⟩⟩
 · rw [List.append_nil,hfn];exact hR _ _ _
 · rw [List.append_nil,hfn];exact hA' _ fun x hx=>by simpa using hlt x hx
 · rw [List.append_nil,hfn];exact hVn _
 · exact ok_one (t:=tb) hres rfl (okWide_bool_mk hb true)
 · refine ⟨_,[],p,⟨p,[],trodAll_append (hA' (fun _=>true) fun _ _=>rfl) (hR _ _ _),hVn _,by simp,fun b o hp=>?_,fun h=>by cases h⟩,fun x hx _=>hx⟩
   rw [held.frozen _ (hlt _ hp)]
   exact hfz b o hp
def ClF (P:Program) (m:Nat):List TypeId→List AV→Prop
 | [],cs=>cs=[]
 | t :: ts,cs=>∃ a b,cs=a++b∧Cl P m t a∧ClF P m ts b
section
variable {P:Program} {n:Nat} {t:TypeId} {cs:List AV}
theorem Cl.int {k:IntKind} (hu:P.underlying t=some (.int k)) (h:Cl P n t cs):∃ i,cs=[.val (.int k i)]∧(Lit.int k i).wf=true:=by
 cases n with
 | zero=>exact h.elim
 | succ n=>unfold Cl at h;rw [hu] at h;exact h
theorem Cl.bool (hu:P.underlying t=some .bool) (h:Cl P n t cs):∃ b,cs=[.val (.bool b)]:=by
 cases n with
 | zero=>exact h.elim
 | succ n=>unfold Cl at h;rw [hu] at h;exact h
theorem Cl.str (hu:P.underlying t=some .string) (h:Cl P n t cs):∃ s:ByteArray,cs=[.val (.string s)]∧s.size≤reachBytes:=by
 cases n with
 | zero=>exact h.elim
 | succ n=>unfold Cl at h;rw [hu] at h;exact h
theorem Cl.slice {e:TypeId} (hu:P.underlying t=some (.slice e)) (h:Cl P n t cs):∃ m es,cs=[.isl (P.cellsOf e) es]∧es.length * P.bytesOf e≤reachBytes∧∀ x∈es,El P (Cl P m) e x:=by
 cases n with
 | zero=>exact h.elim
 | succ n=>unfold Cl at h;rw [hu] at h;exact ⟨n,h⟩
theorem Cl.struct {fs:Array Field} (hu:P.underlying t=some (.struct fs)) (h:Cl P n t cs):∃ m,ClF P m (fs.toList.map (·.type)) cs:=by
 cases n with
 | zero=>exact h.elim
 | succ n =>
  unfold Cl at h;rw [hu] at h
  obtain ⟨css,rfl,hl,hc⟩:=h
  refine ⟨n,?_⟩
  obtain ⟨fs⟩:=fs
  dsimp only at hc ⊢
  have hc':∀ (i:Nat) f c,fs[i]? = some f→css[i]? = some c→Cl P n f.type c:=fun i f c hf hcc=>hc i f c (by simpa using hf) hcc
  have hl':css.length=fs.length:=by simpa using hl
  clear hc hl hu
  induction fs generalizing css with
  | nil=>cases css with
   | nil=>rfl
   | cons c css=>simp at hl'
  | cons f fs ih=>cases css with
   | nil=>simp at hl'
   | cons c css=>exact ⟨c,css.flatten,by simp,hc' 0 f c rfl rfl,ih css (fun i f c hf hcc=>hc' (i+1) f c (by simpa using hf) (by simpa using hcc)) (by simpa using hl')⟩
theorem Cl.array {m:Nat} {e:TypeId} (hu:P.underlying t=some (.array m e)) (h:Cl P n t cs):∃ m',ClF P m' (List.replicate m e) cs:=by
 cases n with
 | zero=>exact h.elim
 | succ n =>
  unfold Cl at h;rw [hu] at h
  obtain ⟨css,rfl,hl,hc⟩:=h
  refine ⟨n,?_⟩
  clear hu
  induction m generalizing css with
  | zero=>cases css with
   | nil=>rfl
   | cons c css=>simp at hl
  | succ m ih=>cases css with
   | nil=>simp at hl
   | cons c css=>exact ⟨c,css.flatten,by simp,hc c (by simp),ih css (by simpa using hl) (fun c hcc=>hc c (by simp [hcc]))⟩
theorem El.agg {c:TypeId→List AV→Prop} {x:AV} (ha:wM P t=true) (h:El P c t x):∃ cs,x=.agg cs∧c t cs:=by
 unfold El at h;rw [ha] at h;exact h
theorem El.one {c:TypeId→List AV→Prop} {x:AV} (ha:wM P t=false) (h:El P c t x):c t [x]:=by
 unfold El at h;rw [ha] at h;exact h.2
end
theorem wy {α:Type} {enc:α→AV} {ok:α→Prop}:∀ {es:List AV},(∀ x∈es,∃ c,x=enc c∧ok c)→∃ l:List α,es=mapE enc l∧∀ c∈l,ok c
 | [],_=>⟨[],by simp [zn],fun c h=>by simp at h⟩
 | x :: es,h=>by
  obtain ⟨c,rfl,hc⟩:=h x List.mem_cons_self
  obtain ⟨l,rfl,hl⟩:=wy fun x hx=>h x (List.mem_cons_of_mem _ hx)
  exact ⟨c :: l,by simp [zn],fun c' h'=>by
   rcases List.mem_cons.1 h' with rfl | h'
   · exact hc
   · exact hl c' h'⟩
end Go.Am
end
section
namespace Go.Am
mutual
def tz {H:Type}:DataW H→List Value
 | .lit (.bool b)=>[.bool b]
 | .lit (.int k n)=>[.int k n]
 | .lit (.string s)=>[.string ⟨s.toArray⟩]
 | .agg ds=>flatDs ds
 | _=>[]
def flatDs {H:Type}:List (DataW H)→List Value
 | []=>[]
 | d :: r=>tz d++flatDs r
end
def tK (P:Program):Nat→List Field→Option Nat
 | off,[]=>some off
 | off,f :: fs=>if Nat.beq f.offset off then tK P (off+P.cellsOf f.type) fs else none
def uo (P:Program):Nat→TypeId→Bool
 | 0,_=>false
 | n+1,t=>match P.underlying t with
  | some .bool=>true
  | some (.int _)=>true
  | some .string=>true
  | some (.struct fs)=>fs.toList.all (fun f=>uo P n f.type) && (match tK P 0 fs.toList with | some k=>Nat.beq k (P.cellsOf t) | none=>false)
  | some (.array m e)=>uo P n e && Nat.beq (m * P.cellsOf e) (P.cellsOf t)
  | _=>false
theorem mapM_cons_some {α β:Type} {f:α→Option β} {a:α} {l:List α} {r:List β} (h:(a :: l).mapM f=some r):∃ b r',f a=some b∧l.mapM f=some r'∧r=b :: r':=by
 rw [List.mapM_cons] at h
 simp only [Option.bind_eq_bind,Option.pure_def] at h
 obtain ⟨b,hb,h⟩:=Option.bind_eq_some_iff.1 h
 obtain ⟨r',hr,h⟩:=Option.bind_eq_some_iff.1 h
 exact ⟨b,r',hb,hr,by simpa using h.symm⟩
theorem flat_fields {H:Type} {P:Program} {n:Nat} {cs:List Value} {g:TypeId→List Value→Option (DataW H × List MemPlace)} (hg:∀ t c d p,uo P n t=true→g t c=some (d,p)→c=tz d):∀ (fs:List Field) (off tot:Nat) (xs:List (DataW H × List MemPlace)),(∀ f∈fs,uo P n f.type=true)→tK P off fs=some tot→(fs.mapM fun f=>g f.type ((cs.drop f.offset).take (P.cellsOf f.type)))=some xs→cs.drop off=flatDs (xs.map (·.1))++cs.drop tot
 | [],off,tot,xs,_,ho,hm=>by
  simp [tK] at ho;subst ho
  have:xs=[]:=by simpa using hm.symm
  subst this;simp [flatDs]
 | f :: fs,off,tot,xs,hf,ho,hm=>by
  simp only [tK] at ho
  split at ho
  · rename_i hb
    have e:=Nat.eq_of_beq_eq_true hb
    obtain ⟨b,r,h1,h2,rfl⟩:=mapM_cons_some hm
    have h3:=hg _ _ _ _ (hf f List.mem_cons_self) h1
    have h4:=flat_fields hg fs _ _ r (fun f hf'=>hf f (List.mem_cons_of_mem _ hf')) ho h2
    rw [e] at h3
    simp only [List.map_cons,flatDs]
    rw [← h3,List.append_assoc,← h4,← List.drop_drop,List.take_append_drop]
  · cases ho
theorem flat_elems {H:Type} {cs:List Value} {k:Nat} {g:List Value→Option (DataW H × List MemPlace)} (hg:∀ c d p,g c=some (d,p)→c=tz d):∀ (m s:Nat) (xs:List (DataW H × List MemPlace)),((List.range' s m).mapM fun i=>g ((cs.drop (i * k)).take k))=some xs→cs.drop (s * k)=flatDs (xs.map (·.1))++cs.drop ((s+m) * k)
 | 0,s,xs,hm=>by
  have:xs=[]:=by simpa using hm.symm
  subst this;simp [flatDs]
 | m+1,s,xs,hm=>by
  rw [List.range'_succ] at hm
  obtain ⟨b,r,h1,h2,rfl⟩:=mapM_cons_some hm
  have h3:=hg _ _ _ h1
  have h4:=flat_elems hg m (s+1) r h2
  simp only [List.map_cons,flatDs]
  rw [← h3,List.append_assoc,show s+(m+1)=s+1+m by omega,← h4,Nat.add_mul,Nat.one_mul,← List.drop_drop,List.take_append_drop]
theorem trod_flat {H:Type} {enc:TypeId × Value→H} {P:Program} {w:World} {base:Nat} {sp:Nat→Bool} {held:Bool}:∀ (fuel n:Nat) (t:TypeId) (cs:List Value) (d:DataW H) (p:List MemPlace),uo P n t=true→DataW.trod enc P w base sp held fuel t cs=some (d,p)→cs=tz d
 | 0,_,_,_,_,_,_,h=>by simp [DataW.trod] at h
 | fuel+1,0,_,_,_,_,hf,_=>by cases hf
 | fuel+1,n+1,t,cs,d,p,hf,h=>by
  unfold uo at hf
  split at hf
  · rename_i hu
    obtain ⟨b,rfl,e⟩:=DataW.trod_bool hu h
    cases e;rfl
  · rename_i k hu
    obtain ⟨z,rfl,e,_⟩:=DataW.trod_int hu h
    cases e;rfl
  · rename_i hu
    obtain ⟨z,rfl,e,_⟩:=DataW.trod_string hu h
    cases e;rfl
  · rename_i fs hu
    simp only [Bool.and_eq_true,List.all_eq_true] at hf
    obtain ⟨h1,h2⟩:=hf
    split at h2
    · rename_i k hk
      have h2:=Nat.eq_of_beq_eq_true h2
      simp only [DataW.trod,hu] at h
      split at h
      · rename_i hl
        obtain ⟨xs,hm,hx⟩:=Option.map_eq_some_iff.1 h
        have:=flat_fields (n:=n) (fun t c d p a b=>trod_flat fuel n t c d p a b) fs.toList 0 k xs h1 hk hm
        rw [List.drop_zero,h2,← hl,List.drop_length,List.append_nil] at this
        cases hx
        exact this
      · cases h
    · cases h2
  · rename_i m e hu
    simp only [Bool.and_eq_true] at hf
    have h2:=Nat.eq_of_beq_eq_true hf.2
    simp only [DataW.trod,hu] at h
    split at h
    · rename_i hl
      obtain ⟨xs,hm,hx⟩:=Option.map_eq_some_iff.1 h
      rw [List.range_eq_range'] at hm
      have:=flat_elems (k:=P.cellsOf e) (fun c d p b=>trod_flat fuel n e c d p hf.1 b) m 0 xs hm
      rw [Nat.zero_mul,List.drop_zero,Nat.zero_add,h2,← hl,List.drop_length,List.append_nil] at this
      cases hx
      exact this
    · cases h
  · cases hf
theorem laid_cells {P:Program} {W:World}:∀ {laid:List (String × DataW Unit)} {ps:List MemPlace},DataW.LaidVars P W laid ps→∀ {name:String} {d:DataW Unit},(name,d)∈laid→∀ {g n:Nat} {t:TypeId},P.globalNamed name=some g→(P.globals[g]?).map (·.type)=some t→uo P n t=true→W.var? P name=some (tz d).toArray
 | [],_,_,_,_,hm,_,_,_,_,_,_=>by cases hm
 | (n0,d0) :: r,ps,h,name,d,hm,g,n,t,hg,ht,hf=>by
  obtain ⟨g',t',cs,fuel,p,q,hg',ht',hvar,hd,hr,_⟩:=h
  rcases List.mem_cons.1 hm with e | hm
  · cases e
    obtain rfl:=Option.some.inj (hg.symm.trans hg')
    obtain rfl:=Option.some.inj (ht.symm.trans ht')
    rw [hvar,← trod_flat fuel n t _ _ _ hf hd]
  · exact laid_cells hr hm hg ht hf
theorem glob_rep {P:Program} {W:World} {name:String} {g:Nat} {vs:List Value} {cs:List AV} (hv:W.var? P name=some vs.toArray) (hg:P.globalNamed name=some g) (hcs:cs=vs.map .val) (hna:∀ v∈vs,∀ c,v≠.agg c) :
 VRep ⟨fun _=>none,fun b=>b<W.heap.size⟩ 0 W (.iptr cs) (.pointer (some ⟨g,0,none⟩)):=by
 unfold World.var? at hv
 rw [hg,Option.bind_some] at hv
 split at hv
 · rename_i c ty fz hh
   obtain rfl:=Option.some.inj hv
   subst hcs
   refine .iptr _ (fun j=>vs.getD j undef) g 0 (Array.getElem?_eq_some_iff.1 hh).1 (fun j c hj=>?_) (fun j c hj=>?_)
   · rw [List.getElem?_map] at hj
     obtain ⟨v,hv,rfl⟩:=Option.map_eq_some_iff.1 hj
     simp [World.cell?,hh,List.getD_eq_getElem?_getD,hv]
   · rw [List.getElem?_map] at hj
     obtain ⟨v,hv,rfl⟩:=Option.map_eq_some_iff.1 hj
     rw [List.getD_eq_getElem?_getD,hv]
     exact .val _ (hna v (List.mem_of_getElem? hv))
 · cases hv
end Go.Am
end
section
namespace Go.Am
inductive Wk2 (M:Nat):AV→AV→Prop
 | wk (v v':AV) (h:Wk M v v'):Wk2 M v v'
 | agg (cs cs':List AV) (hl:cs.length=cs'.length) (h:∀ (i:Nat) c c',cs[i]? = some c→cs'[i]? = some c'→Wk2 M c c'):Wk2 M (.agg cs) (.agg cs')
 | tup (cs cs':List AV) (hl:cs.length=cs'.length) (h:∀ (i:Nat) c c',cs[i]? = some c→cs'[i]? = some c'→Wk2 M c c'):Wk2 M (.tup cs) (.tup cs')
 | isl (k:Nat) (es es':List AV) (hl:es.length=es'.length) (hc:∀ (i:Nat) e e',es[i]? = some e→es'[i]? = some e'→e.cells.length=e'.cells.length)
  (h:∀ (i:Nat) e e' (j:Nat) c c',es[i]? = some e→es'[i]? = some e'→e.cells[j]? = some c→e'.cells[j]? = some c'→Wk2 M c c'):Wk2 M (.isl k es) (.isl k es')
theorem Wk2.rep {K:Ctx} {M:Nat} {w:World} {v v':AV} (h:Wk2 M v v'):∀ {y:Value},VRep K M w v y→VRep K M w v' y:=by
 induction h with
 | wk v v' h=>exact fun hy=>h.rep hy
 | agg cs cs' hl _ ih =>
  intro y h
  cases h with
  | agg _ ys hl2 h =>
   refine .agg cs' ys (hl ▸ hl2) fun i c' y hc hy=>?_
   obtain ⟨c,hc1⟩:∃ c,cs[i]? = some c:=⟨_,List.getElem?_eq_getElem (by have:=(List.getElem?_eq_some_iff.1 hc).1;omega)⟩
   exact ih i c c' hc1 hc (h i c y hc1 hy)
 | tup cs cs' hl _ ih =>
  intro y h
  cases h with
  | tup _ ys hl2 h =>
   refine .tup cs' ys (hl ▸ hl2) fun i c' y hc hy=>?_
   obtain ⟨c,hc1⟩:∃ c,cs[i]? = some c:=⟨_,List.getElem?_eq_getElem (by have:=(List.getElem?_eq_some_iff.1 hc).1;omega)⟩
   exact ih i c c' hc1 hc (h i c y hc1 hy)
 | isl k es es' hl hcl _ ih =>
  intro y h
  cases h with
  | islnil _ =>
   have:es'=[]:=List.length_eq_zero_iff.1 hl.symm
   subst this
   exact .islnil k
  | isl _ _ f a cap hle hI hk hc h =>
   have el:∀ (i:Nat) e',es'[i]? = some e'→∃ e,es[i]? = some e:=fun i e' he=>⟨_,List.getElem?_eq_getElem (by have:=(List.getElem?_eq_some_iff.1 he).1;omega)⟩
   have cl:∀ (i:Nat) e e' (j:Nat) c',es[i]? = some e→es'[i]? = some e'→e'.cells[j]? = some c'→∃ c,e.cells[j]? = some c:=fun i e e' j c' h1 h2 h3=>⟨_,List.getElem?_eq_getElem (by have:=(List.getElem?_eq_some_iff.1 h3).1;have:=hcl i e e' h1 h2;omega)⟩
   have:=VRep.isl (K:=K) (M:=M) (w:=w) k es' f a cap (hl ▸ hle) (fun hne=>hI fun h0=>hne (by subst h0;exact List.length_eq_zero_iff.1 hl.symm))
    (fun i e' he'=>by obtain ⟨e,he⟩:=el i e' he';rw [← hcl i e e' he he'];exact hk i e he)
    (fun i e' j c' he' hc'=>by
     obtain ⟨e,he⟩:=el i e' he'
     obtain ⟨c,hc1⟩:=cl i e e' j c' he he' hc'
     exact hc i e j c he hc1)
    (fun i e' j c' he' hc'=>by
     obtain ⟨e,he⟩:=el i e' he'
     obtain ⟨c,hc1⟩:=cl i e e' j c' he he' hc'
     exact ih i e e' j c c' he he' hc1 hc' (h i e j c he hc1))
   rw [← hl] at this
   exact this
def Wk2L (M:Nat):List AV→List AV→Prop
 | [],[]=>True
 | c :: cs,d :: ds=>Wk2 M c d∧Wk2L M cs ds
 | _,_=>False
theorem Wk2L.spec {M:Nat}:∀ {cs ds:List AV},Wk2L M cs ds→cs.length=ds.length∧∀ (i:Nat) c c',cs[i]? = some c→ds[i]? = some c'→Wk2 M c c'
 | [],[],_=>⟨rfl,fun i c c' h=>by simp at h⟩
 | c :: cs,d :: ds,h=>by
  obtain ⟨h1,h2⟩:=h.2.spec
  refine ⟨by simp [h1],fun i x y hx hy=>?_⟩
  cases i with
  | zero=>cases hx;cases hy;exact h.1
  | succ i=>exact h2 i x y (by simpa using hx) (by simpa using hy)
 | [],_ :: _,h=>h.elim
 | _ :: _,[],h=>h.elim
theorem Wk2.agg' {M:Nat} {cs ds:List AV} (h:Wk2L M cs ds):Wk2 M (.agg cs) (.agg ds):=.agg _ _ h.spec.1 h.spec.2
theorem Wk2.tup' {M:Nat} {cs ds:List AV} (h:Wk2L M cs ds):Wk2 M (.tup cs) (.tup ds):=.tup _ _ h.spec.1 h.spec.2
theorem Wk2.refl {M:Nat} (v:AV):Wk2 M v v:=.wk _ _ (.refl _)
theorem Wk2.nilI {M:Nat} (k:Nat):Wk2 M (.val (.slice none 0 0)) (.isl k []):=.wk _ _ (.nilI k)
theorem Wk2.of {M:Nat} {v v':AV} (h:v=v'):Wk2 M v v':=h ▸ .refl _
def Wk2E (M:Nat):List AV→List AV→Prop
 | [],[]=>True
 | c :: cs,d :: ds=>Wk2L M c.cells d.cells∧Wk2E M cs ds
 | _,_=>False
theorem Wk2E.spec {M:Nat}:∀ {cs ds:List AV},Wk2E M cs ds→cs.length=ds.length∧∀ (i:Nat) c c',cs[i]? = some c→ds[i]? = some c'→Wk2L M c.cells c'.cells
 | [],[],_=>⟨rfl,fun i c c' h=>by simp at h⟩
 | c :: cs,d :: ds,h=>by
  obtain ⟨h1,h2⟩:=h.2.spec
  refine ⟨by simp [h1],fun i x y hx hy=>?_⟩
  cases i with
  | zero=>cases hx;cases hy;exact h.1
  | succ i=>exact h2 i x y (by simpa using hx) (by simpa using hy)
 | [],_ :: _,h=>h.elim
 | _ :: _,[],h=>h.elim
theorem Wk2.isl' {M k:Nat} {es es':List AV} (h:Wk2E M es es'):Wk2 M (.isl k es) (.isl k es') :=
 .isl k es es' h.spec.1 (fun i e e' h1 h2=>(h.spec.2 i e e' h1 h2).spec.1) (fun i e e' j c c' h1 h2 h3 h4=>(h.spec.2 i e e' h1 h2).spec.2 j c c' h3 h4)
theorem Wk2L.refl {M:Nat}:∀ cs:List AV,Wk2L M cs cs
 | []=>trivial
 | c :: cs=>⟨.refl c,.refl cs⟩
theorem PCall.weak2 {E:Env} {f:FuncId} {args:List AV} {v v':AV} (h:PCall E f args v) (hw:Wk2 0 v v'):PCall E f args v' :=
 ⟨h.1,fun K w ys a b=>(h.2 K w ys a b).mono fun e w' ⟨u,y,H',K',h1,⟨h2,h2'⟩,h3,h4,h5⟩=>⟨v',y,H',K',h1,⟨rfl,h2'⟩,h3,by subst h2;subst h2';exact hw.rep h4,h5⟩⟩
def SWkL (σ:Nat→Sub):List AV→List AV→Prop
 | [],[]=>True
 | c :: cs,d :: ds=>Wk 0 (c.sub σ) d∧SWkL σ cs ds
 | _,_=>False
theorem SWkL.wkL {σ:Nat→Sub}:∀ {cs ds:List AV},SWkL σ cs ds→WkL 0 (AV.subL σ cs) ds
 | [],[],_=>trivial
 | _c :: _cs,_d :: _ds,h=>⟨h.1,h.2.wkL⟩
 | [],_ :: _,h=>h.elim
 | _ :: _,[],h=>h.elim
def LendOk (H:zz) (args args':List AV):Prop:=∃ L,SubL H 0 [] (ofL L) 0 L∧SWkL (ofL L) args args'
theorem xX {E:Env} {n N:Nat} {Q:zL→AFr→zz→Prop} {k:List KI} {F:AFr} {H:zz} {o:AOper} {l:List AOper} {f:FuncId} {xs:List Opd} {args':List AV} {v:AV} (hg:zO F o.guard=some true) (ho:o.op=.call f xs)
 (hc:PCall E f args' v) (hfl:v.flat=true) (hl:LendOk H (xs.map (·.ev E.G F)) args') (h:Holds E n N Q (.ops l) k (F.set o.dst v) H):Holds E n N Q (.ops (o :: l)) k F H:=by
 obtain ⟨L,h1,h2⟩:=hl
 exact aops_lcall L hg ho rfl h1 rfl (hc.weak h2.wkL) hfl h
end Go.Am
end
section
namespace Go.Am
open Go.Shelf Go.Sort Go.Proofs
def yE (zs:List Int):List Int:=zs.mergeSort fun x y=>decide (x≤y)
theorem putCells_len (d:Array Int) (off:Nat) (c:Array Value):(putCells (Value.int .i64) off d c).size=c.size:=by simp [putCells]
theorem putCells_at {ts:List Int} {off:Nat} {c:Array Value} {j:Nat} (hj:j<ts.length) (hc:off+j<c.size):(putCells (Value.int .i64) off ts.toArray c)[off+j]? = some (.int .i64 ts[j]):=by
 simp [putCells,hj,hc]
theorem sort_nil : yE []=[]:=by simp [yE]
theorem sort_acall {E:Env} {ρ:Ren} (Ly:Lays.n189 E.P ρ) (zs:List Int) (hsz:zs.length<4611686018427387904) :
 ACall E (ρ.f 189) [.sl 0 1 0 zs.length] [.arr 1 (zs.map fun z=>.val (.int .i64 z))] fun v H'=>v=.tup []∧H'=[.arr 1 ((yE zs).map fun z=>.val (.int .i64 z))]:=by
 intro K w ys hh hv
 have hlen:(yE zs).length=zs.length:=by simp [yE,List.length_mergeSort]
 obtain ⟨y,rfl⟩:∃ y,ys=[y]:=by
  match ys,hv.1 with
  | [y],_=>exact ⟨y,rfl⟩
 have v0:=hv.2 0 _ y rfl rfl
 have tupr:∀ (K:Ctx) (M:Nat) (w:World),VRep K M w (.tup []) (.tuple #[]):=fun K M w=>.tup [] [] rfl fun i c y h=>by simp at h
 have nil:zs=[]→∀ (p:Option Addr),y=.slice p 0 0→Calls E.P (ρ.f 189) [y].toArray w fun e w'=>∃ v y H' K',e=.returned y∧(v=.tup []∧H'=[.arr 1 ((yE zs).map fun z=>.val (.int .i64 z))])∧HRep E K' w' H'∧VRep K' H'.length w' v y∧Ev 1 K [.arr 1 (zs.map fun z=>.val (.int .i64 z))] w K' H' w':=by
  rintro rfl p rfl
  refine (Any.slices_Sort_int_none Ly p 0 w).mono ?_
  rintro e w' ⟨rfl,rfl⟩
  exact ⟨_,_,_,K,rfl,⟨rfl,rfl⟩,by rw [sort_nil];exact hh,tupr _ _ _,by rw [sort_nil];exact Ev.refl _ _ _ _ (Nat.le_refl _)⟩
 generalize hz:zs.length=m at v0
 cases v0 with
 | slnil _ _ _ hM=>exact nil (List.length_eq_zero_iff.1 hz) none rfl
 | sl0 _ _ _ a hM=>exact nil (List.length_eq_zero_iff.1 hz) (some a) rfl
 | sl _ _ _ _ cap blk base hM hγ hle hs =>
  subst hz
  by_cases h0:zs=[]
  · subst h0
    refine (Any.slices_Sort_int_none Ly _ cap w).mono ?_
    rintro e w' ⟨rfl,rfl⟩
    exact ⟨_,_,_,K,rfl,⟨rfl,rfl⟩,by rw [sort_nil];exact hh,tupr _ _ _,by rw [sort_nil];exact Ev.refl _ _ _ _ (Nat.le_refl _)⟩
  have ho:=hh.obj 0 _ rfl
  rw [hγ] at ho
  generalize hes:(zs.map fun z=>AV.val (.int .i64 z))=es at ho
  cases ho with
  | arr _ _ _ _ c ty hb hk hl =>
   have hel:es.length=zs.length:=by rw [← hes];simp
   have hat:∀ j (hj:j<zs.length),c[base+j]? = some (.int .i64 zs[j]):=by
    intro j hj
    have he:es[j]? = some (.val (.int .i64 zs[j])):=by rw [← hes];simp [hj]
    obtain ⟨y,h1,h2⟩:=hl j _ he 0 _ rfl
    cases h2
    simpa using h1
   have hH:Go.Sort.Holds (Value.int .i64) w blk base zs.toArray:=by
    intro j hj
    have hj':j<zs.length:=by simpa using hj
    refine ⟨?_,by simp [World.frozen?,hb]⟩
    simp only [World.cell?,hb,Option.isSome_none,Bool.false_eq_true,if_false]
    rw [hat j hj'];simp [hj']
   have hblk:blk<w.heap.size:=(Array.getElem?_eq_some_iff.1 hb).1
   have hc:=Any.slices_Sort_int Ly blk base cap zs w hH hblk hsz
   have e0:base+0 * 1=base:=by omega
   rw [e0]
   refine hc.mono ?_
   rintro e w' ⟨rfl,n,os,rfl⟩
   have hnew:∀ k,k<w.heap.size→k≠blk→(grow (putRow (Value.int .i64) (Sort.ahead w n) blk base (zs.mergeSort fun x y=>decide (x≤y)).toArray) os).heap[k]? = w.heap[k]?:=by
    intro k hk hne
    rw [heap_grow_old _ _ (by simpa using hk)]
    simp [putRow,mapBlock,Sort.ahead,Array.getElem?_modify,Ne.symm hne]
   have hblk':(grow (putRow (Value.int .i64) (Sort.ahead w n) blk base (zs.mergeSort fun x y=>decide (x≤y)).toArray) os).heap[blk]? = some (.cells (putCells (Value.int .i64) base (yE zs).toArray c) ty (0,0)):=by
    rw [heap_grow_old _ _ (by simpa using hblk)]
    simp [putRow,mapBlock,Sort.ahead,Array.getElem?_modify,hb,onCells,yE]
   generalize hw:(grow (putRow (Value.int .i64) (Sort.ahead w n) blk base (zs.mergeSort fun x y=>decide (x≤y)).toArray) os)=w' at hnew hblk'
   have hsize:w.heap.size≤w'.heap.size:=by rw [← hw];simp [grow,putRow,mapBlock,Sort.ahead]
   have hos:w'.os=w.os:=by rw [← hw];rfl
   have hout:w'.output=w.output:=by rw [← hw];rfl
   have own:∀ b,yF K [.arr 1 es] b↔b=blk:=by
    intro b
    constructor
    · rintro ⟨i,o,base',h1,h2,h3⟩
      cases i with
      | zero=>rw [hγ] at h3;cases h3;rfl
      | succ i=>simp at h1
    · rintro rfl;exact ⟨0,_,base,rfl,trivial,hγ⟩
   have hnI:¬ K.I blk:=hh.disj blk ⟨0,_,base,rfl,trivial,hγ⟩
   have cells:∀ (b:Nat) c1 ty fz,w.heap[b]? = some (.cells c1 ty fz)→∃ c' fz',w'.heap[b]? = some (.cells c' ty fz')∧c'.size=c1.size:=by
    intro b c1 ty1 fz h1
    by_cases hbb:b=blk
    · subst hbb;rw [hb] at h1;cases h1;exact ⟨_,_,hblk',putCells_len _ _ _⟩
    · exact ⟨c1,fz,by rw [hnew b (Array.getElem?_eq_some_iff.1 h1).1 hbb];exact h1,rfl⟩
   refine ⟨_,_,_,K,rfl,⟨rfl,rfl⟩,⟨?_,?_,?_,?_,?_⟩,tupr _ _ _,⟨fun _ _=>rfl,by simp,fun _ h=>h,fun _ h=>.inl h,?_,?_,hsize,cells,?_,hos,hout⟩⟩
   · intro b o hbo
     cases b with
     | succ b=>simp at hbo
     | zero =>
      simp at hbo;subst hbo
      rw [hγ]
      refine .arr blk base 1 _ _ ty hblk' (fun i e he=>?_) (fun i e he=>?_)
      · rw [List.getElem?_map] at he
        obtain ⟨z,_,rfl⟩:=Option.map_eq_some_iff.1 he
        rfl
      · rw [List.getElem?_map] at he
        obtain ⟨z,hz,rfl⟩:=Option.map_eq_some_iff.1 he
        intro j x hx
        cases j with
        | succ j=>simp [AV.cells] at hx
        | zero =>
         simp [AV.cells] at hx;subst hx
         have hi:i<(yE zs).length:=(List.getElem?_eq_some_iff.1 hz).1
         refine ⟨.int .i64 z,?_,.val _ (by intro cs;simp)⟩
         have hcs:base+i<c.size:=by
          have:=hat i (by omega)
          exact (Array.getElem?_eq_some_iff.1 this).1
         have:=putCells_at (off:=base) (c:=c) (ts:=yE zs) hi hcs
         have hz':(yE zs)[i]=z:=(List.getElem?_eq_some_iff.1 hz).2
         rw [hz'] at this
         simpa using this
   · intro b b' o o' blk base base' h1 h2
     cases b with
     | succ b=>simp at h1
     | zero=>cases b' with
      | succ b=>simp at h2
      | zero=>intros;rfl
   · rintro b ⟨i,o,base',h1,h2,h3⟩ hi
     cases i with
     | zero=>rw [hγ] at h3;cases h3;exact hnI hi
     | succ i=>simp at h1
   · intro b hi;exact Nat.lt_of_lt_of_le (hh.low b hi) hsize
   · intro g
     refine VRep.mono (K:=K) (K':=K) (fun _ _=>rfl) (Nat.le_refl _) (fun _ h=>h) (fun b hi o=>?_) cells (hh.glob g)
     have hne:b≠blk:=by rintro rfl;exact hnI hi
     unfold World.cell?
     rw [hnew b (hh.low b hi) hne]
   · rintro b ⟨i,o,base',h1,h2,h3⟩
     cases i with
     | zero=>left;rw [← hes];exact ⟨0,_,base',rfl,trivial,h3⟩
     | succ i=>simp at h1
   · intro b hb1 hno
     refine hnew b hb1 ?_
     rintro rfl
     exact hno (by rw [← hes];exact ⟨0,_,base,rfl,trivial,hγ⟩)
   · intro b r hr
     by_cases hbb:b=blk
     · subst hbb;rw [hb] at hr;cases hr
     · exact ⟨r,by rw [hnew b (Array.getElem?_eq_some_iff.1 hr).1 hbb];exact hr⟩
end Go.Am
end
section
namespace Go.Am
open Go.Shelf Go.Sort Go.Proofs
theorem vj (zs:List Int):(Lib.compact zs).length≤zs.length:=by
 unfold Lib.compact Lib.compactUpTo
 rw [List.length_map]
 refine Nat.le_trans (List.length_filter_le _ _) ?_
 simp
def wx (zs:List Int):List Int:=Lib.compact zs++List.replicate (zs.length - (Lib.compact zs).length) 0
theorem compI_len (zs:List Int):(wx zs).length=zs.length:=by
 have:=vj zs
 simp [wx];omega
theorem comp_acall {E:Env} {ρ:Ren} (Ly:Lays2.n20 E.P ρ) (zs:List Int) (hsz:zs.length≤9223372036854775807) :
 ACall E (ρ.f 20) [.sl 0 1 0 zs.length] [.arr 1 (zs.map fun z=>.val (.int .i64 z))] fun v H'=>v=.sl 0 1 0 (Lib.compact zs).length∧H'=[.arr 1 ((wx zs).map fun z=>.val (.int .i64 z))]:=by
 intro K w ys hh hv
 have hlen:(wx zs).length=zs.length:=compI_len zs
 obtain ⟨y,rfl⟩:∃ y,ys=[y]:=by
  match ys,hv.1 with
  | [y],_=>exact ⟨y,rfl⟩
 have v0:=hv.2 0 _ y rfl rfl
 have tupr:∀ (K:Ctx) (M:Nat) (w:World),VRep K M w (.tup []) (.tuple #[]):=fun K M w=>.tup [] [] rfl fun i c y h=>by simp at h
 have nil:zs=[]→∀ (p:Option Addr),y=.slice p 0 0→Calls E.P (ρ.f 20) [y].toArray w fun e w'=>∃ v y H' K',e=.returned y∧(v=.sl 0 1 0 (Lib.compact zs).length∧H'=[.arr 1 ((wx zs).map fun z=>.val (.int .i64 z))])∧HRep E K' w' H'∧VRep K' H'.length w' v y∧Ev 1 K [.arr 1 (zs.map fun z=>.val (.int .i64 z))] w K' H' w':=by
  rintro rfl p rfl
  refine (Any.slices_Compact_int_empty Ly p 0 w).mono ?_
  rintro e w' ⟨rfl,rfl⟩
  refine ⟨_,_,_,K,rfl,⟨rfl,rfl⟩,hh,?_,Ev.refl _ _ _ _ (Nat.le_refl _)⟩
  cases p with
  | none=>exact .slnil 0 1 0 (by simp)
  | some a=>exact .sl0 0 1 0 a (by simp)
 generalize hz:zs.length=m at v0
 cases v0 with
 | slnil _ _ _ hM=>exact nil (List.length_eq_zero_iff.1 hz) none rfl
 | sl0 _ _ _ a hM=>exact nil (List.length_eq_zero_iff.1 hz) (some a) rfl
 | sl _ _ _ _ cap blk base hM hγ hle hs =>
  subst hz
  by_cases h0:zs=[]
  · subst h0
    refine (Any.slices_Compact_int_empty Ly _ cap w).mono ?_
    rintro e w' ⟨rfl,rfl⟩
    exact ⟨_,_,_,K,rfl,⟨rfl,rfl⟩,hh,VRep.sl 0 1 0 0 cap blk base hM hγ hle hs,Ev.refl _ _ _ _ (Nat.le_refl _)⟩
  have ho:=hh.obj 0 _ rfl
  rw [hγ] at ho
  generalize hes:(zs.map fun z=>AV.val (.int .i64 z))=es at ho
  cases ho with
  | arr _ _ _ _ c ty hb hk hl =>
   have hel:es.length=zs.length:=by rw [← hes];simp
   have hat:∀ j (hj:j<zs.length),c[base+j]? = some (.int .i64 zs[j]):=by
    intro j hj
    have he:es[j]? = some (.val (.int .i64 zs[j])):=by rw [← hes];simp [hj]
    obtain ⟨y,h1,h2⟩:=hl j _ he 0 _ rfl
    cases h2
    simpa using h1
   have hH:Go.Sort.Holds (Value.int .i64) w blk base zs.toArray:=by
    intro j hj
    have hj':j<zs.length:=by simpa using hj
    refine ⟨?_,by simp [World.frozen?,hb]⟩
    simp only [World.cell?,hb,Option.isSome_none,Bool.false_eq_true,if_false]
    rw [hat j hj'];simp [hj']
   have hblk:blk<w.heap.size:=(Array.getElem?_eq_some_iff.1 hb).1
   have hc:=Any.slices_Compact_int Ly blk base cap zs w hH hsz hle
   have e0:base+0 * 1=base:=by omega
   rw [e0]
   refine hc.mono ?_
   rintro e w' ⟨rfl,n,rfl⟩
   have hnew:∀ k,k<w.heap.size→k≠blk→(putRow (Value.int .i64) (Sort.ahead w n) blk base (Lib.compact zs++List.replicate (zs.length - (Lib.compact zs).length) 0).toArray).heap[k]? = w.heap[k]?:=by
    intro k hk hne
    simp [putRow,mapBlock,Sort.ahead,Array.getElem?_modify,Ne.symm hne]
   have hblk':(putRow (Value.int .i64) (Sort.ahead w n) blk base (Lib.compact zs++List.replicate (zs.length - (Lib.compact zs).length) 0).toArray).heap[blk]? = some (.cells (putCells (Value.int .i64) base (wx zs).toArray c) ty (0,0)):=by
    simp [putRow,mapBlock,Sort.ahead,Array.getElem?_modify,hb,onCells,wx]
   generalize hw:(putRow (Value.int .i64) (Sort.ahead w n) blk base (Lib.compact zs++List.replicate (zs.length - (Lib.compact zs).length) 0).toArray)=w' at hnew hblk'
   have hsize:w.heap.size≤w'.heap.size:=by rw [← hw];simp [putRow,mapBlock,Sort.ahead]
   have hos:w'.os=w.os:=by rw [← hw];rfl
   have hout:w'.output=w.output:=by rw [← hw];rfl
   have own:∀ b,yF K [.arr 1 es] b↔b=blk:=by
    intro b
    constructor
    · rintro ⟨i,o,base',h1,h2,h3⟩
      cases i with
      | zero=>rw [hγ] at h3;cases h3;rfl
      | succ i=>simp at h1
    · rintro rfl;exact ⟨0,_,base,rfl,trivial,hγ⟩
   have hnI:¬ K.I blk:=hh.disj blk ⟨0,_,base,rfl,trivial,hγ⟩
   have cells:∀ (b:Nat) c1 ty fz,w.heap[b]? = some (.cells c1 ty fz)→∃ c' fz',w'.heap[b]? = some (.cells c' ty fz')∧c'.size=c1.size:=by
    intro b c1 ty1 fz h1
    by_cases hbb:b=blk
    · subst hbb;rw [hb] at h1;cases h1;exact ⟨_,_,hblk',putCells_len _ _ _⟩
    · exact ⟨c1,fz,by rw [hnew b (Array.getElem?_eq_some_iff.1 h1).1 hbb];exact h1,rfl⟩
   have hres:VRep K 1 w' (.sl 0 1 0 (Lib.compact zs).length) (.slice (some ⟨blk,base,none⟩) (Lib.compact zs).length cap):=by
    have h1:VRep K 1 w (.sl 0 1 0 (Lib.compact zs).length) (.slice (some ⟨blk,base+0 * 1,none⟩) (Lib.compact zs).length cap):=VRep.sl 0 1 0 _ cap blk base hM hγ (Nat.le_trans (vj zs) hle) hs
    rw [e0] at h1
    refine VRep.mono (K:=K) (K':=K) (fun _ _=>rfl) (Nat.le_refl _) (fun _ h=>h) (fun b hi o=>?_) cells h1
    have hne:b≠blk:=by rintro rfl;exact hnI hi
    unfold World.cell?
    rw [hnew b (hh.low b hi) hne]
   refine ⟨_,_,_,K,rfl,⟨rfl,rfl⟩,⟨?_,?_,?_,?_,?_⟩,hres,⟨fun _ _=>rfl,by simp,fun _ h=>h,fun _ h=>.inl h,?_,?_,hsize,cells,?_,hos,hout⟩⟩
   · intro b o hbo
     cases b with
     | succ b=>simp at hbo
     | zero =>
      simp at hbo;subst hbo
      rw [hγ]
      refine .arr blk base 1 _ _ ty hblk' (fun i e he=>?_) (fun i e he=>?_)
      · rw [List.getElem?_map] at he
        obtain ⟨z,_,rfl⟩:=Option.map_eq_some_iff.1 he
        rfl
      · rw [List.getElem?_map] at he
        obtain ⟨z,hz,rfl⟩:=Option.map_eq_some_iff.1 he
        intro j x hx
        cases j with
        | succ j=>simp [AV.cells] at hx
        | zero =>
         simp [AV.cells] at hx;subst hx
         have hi:i<(wx zs).length:=(List.getElem?_eq_some_iff.1 hz).1
         refine ⟨.int .i64 z,?_,.val _ (by intro cs;simp)⟩
         have hcs:base+i<c.size:=by
          have:=hat i (by omega)
          exact (Array.getElem?_eq_some_iff.1 this).1
         have:=putCells_at (off:=base) (c:=c) (ts:=wx zs) hi hcs
         have hz':(wx zs)[i]=z:=(List.getElem?_eq_some_iff.1 hz).2
         rw [hz'] at this
         simpa using this
   · intro b b' o o' blk base base' h1 h2
     cases b with
     | succ b=>simp at h1
     | zero=>cases b' with
      | succ b=>simp at h2
      | zero=>intros;rfl
   · rintro b ⟨i,o,base',h1,h2,h3⟩ hi
     cases i with
     | zero=>rw [hγ] at h3;cases h3;exact hnI hi
     | succ i=>simp at h1
   · intro b hi;exact Nat.lt_of_lt_of_le (hh.low b hi) hsize
   · intro g
     refine VRep.mono (K:=K) (K':=K) (fun _ _=>rfl) (Nat.le_refl _) (fun _ h=>h) (fun b hi o=>?_) cells (hh.glob g)
     have hne:b≠blk:=by rintro rfl;exact hnI hi
     unfold World.cell?
     rw [hnew b (hh.low b hi) hne]
   · rintro b ⟨i,o,base',h1,h2,h3⟩
     cases i with
     | zero=>left;rw [← hes];exact ⟨0,_,base',rfl,trivial,h3⟩
     | succ i=>simp at h1
   · intro b hb1 hno
     refine hnew b hb1 ?_
     rintro rfl
     exact hno (by rw [← hes];exact ⟨0,_,base,rfl,trivial,hγ⟩)
   · intro b r hr
     by_cases hbb:b=blk
     · subst hbb;rw [hb] at hr;cases hr
     · exact ⟨r,by rw [hnew b (Array.getElem?_eq_some_iff.1 hr).1 hbb];exact hr⟩
end Go.Am
end
section
namespace Go.Proofs
open Go.Shelf Go.RowKit Go.Lib
section
variable {P:Program} {ρ:Ren}
set_option maxHeartbeats 2000000 in
set_option maxRecDepth 100000 in
theorem Any.stringslite_Cut1 (L:Lays.n220 P ρ) (s:ByteArray) (b:UInt8) (w:World) (hs:s.size<4294967281) :
 Calls P (ρ.f 220) #[.string s,.string ⟨#[b]⟩] w fun e w'=>e=.returned (.tuple #[.string ⟨(Lib.cut s.data.toList [b]).1.toArray⟩,.string ⟨(Lib.cut s.data.toList [b]).2.1.toArray⟩,.bool (Lib.cut s.data.toList [b]).2.2])∧∃ n,w'=w.drewN n:=by
 have hone:Lib.index s.data.toList [b]=Lib.indexByte s.data.toList b:=Lib.index_one _ _
 rcases Lib.indexB_cases s ⟨#[b]⟩ with hix | ⟨i,hix,hroom⟩
 · obtain ⟨e1,e2,e3⟩:=Lib.cutB_miss s ⟨#[b]⟩ hix
   have hz:Lib.cut s.data.toList [b]=Lib.cut s.data.toList (ByteArray.mk #[b]).data.toList:=rfl
   rw [hz,e1,e2,e3]
   have t3:=L.t3;have t4:=L.t4;have t9:=L.t9
   have a3:∀ w,(isAgg (ρ.t 3)).run P w=.ok false w:=run_isAgg_plain L.t3 rfl;have a4:∀ w,(isAgg (ρ.t 4)).run P w=.ok false w:=run_isAgg_plain L.t4 rfl;have a9:∀ w,(isAgg (ρ.t 9)).run P w=.ok false w:=run_isAgg_plain L.t9 rfl
   have e219:∀ args w,(callFunc (ρ.f 219) args).run P w=.ok (.enter (ρ.f 219) args) w:=enters_of L.f219 (by kernel_rfl) rfl
   have mixed:=L.mixed;have z3:=L.z3;have v3:=L.v3;have z4:=L.z4;have v4:=L.v4;have z9:=L.z9;have v9:=L.v9
   go_enter L.f220,Body.n220_ntmps ρ
   go_wp2_with (go_at_fn (ρ.f 219);refine (Any.stringslite_Index_one { L with } _ _ _).mono ?_;rintro e w' ⟨rfl,rfl⟩;rw [show Lib.indexByte s.data.toList b=_ from hone.symm.trans hix])
   go_ret3
   exact ⟨rfl,0,rfl⟩
 · obtain ⟨e1,e2,e3⟩:=Lib.cutB_hit s ⟨#[b]⟩ i hix
   have hz:Lib.cut s.data.toList [b]=Lib.cut s.data.toList (ByteArray.mk #[b]).data.toList:=rfl
   rw [hz,e1,e2,e3]
   have hsz:(ByteArray.mk #[b]).size=1:=rfl
   have c1:(0:Int)≤↑i:=by omega
   have c2:(↑i:Int)≤↑s.size:=by omega
   have c3:(0:Int)≤↑i + ↑(ByteArray.mk #[b]).size:=by omega
   have c4:(↑i + ↑(ByteArray.mk #[b]).size:Int)≤↑s.size:=by omega
   have t3:=L.t3;have t4:=L.t4;have t9:=L.t9
   have a3:∀ w,(isAgg (ρ.t 3)).run P w=.ok false w:=run_isAgg_plain L.t3 rfl;have a4:∀ w,(isAgg (ρ.t 4)).run P w=.ok false w:=run_isAgg_plain L.t4 rfl;have a9:∀ w,(isAgg (ρ.t 9)).run P w=.ok false w:=run_isAgg_plain L.t9 rfl
   have e219:∀ args w,(callFunc (ρ.f 219) args).run P w=.ok (.enter (ρ.f 219) args) w:=enters_of L.f219 (by kernel_rfl) rfl
   have mixed:=L.mixed;have z3:=L.z3;have v3:=L.v3;have z4:=L.z4;have v4:=L.v4;have z9:=L.z9;have v9:=L.v9
   go_enter L.f220,Body.n220_ntmps ρ
   go_wp2_with (go_at_fn (ρ.f 219);refine (Any.stringslite_Index_one { L with } _ _ _).mono ?_;rintro e w' ⟨rfl,rfl⟩;rw [show Lib.indexByte s.data.toList b=_ from hone.symm.trans hix])
   go_region_o
   go_wp2
   go_ret3
   exact ⟨rfl,1,rfl⟩
end
end Go.Proofs
namespace Go.Am
open Go.Proofs Go.Shelf
theorem HRep.drewN {E:Env} {K:Ctx} {w:World} {H:zz} (h:HRep E K w H) (n:Nat):HRep E K (w.drewN n) H∧Ev H.length K H w K H (w.drewN n):=by
 have hm:Mv K H.length w K H.length (w.drewN n):=⟨fun _ _=>rfl,Nat.le_refl _,fun _ h=>h,fun _ _ _=>rfl,fun b c ty fz h=>⟨c,fz,h,rfl⟩⟩
 refine ⟨⟨fun b o hb=>hm.orep (h.obj b o hb) (fun _ _ _ _=>rfl),h.inj,h.disj,h.low,fun g=>?_⟩,⟨fun _ _=>rfl,Nat.le_refl _,fun _ h=>h,fun _ h=>.inl h,fun _ h=>.inl h,fun _ _ _=>rfl,Nat.le_refl _,fun _ c _ fz h=>⟨c,fz,h,rfl⟩,fun _ r h=>⟨r,h⟩,rfl,rfl⟩⟩
 exact VRep.mono (K':=K) (fun b hb=>absurd hb (Nat.not_lt_zero _)) (Nat.le_refl _) (fun _ h=>h) hm.wc hm.cells (h.glob g)
theorem vals_rep {K:Ctx} {M:Nat} {w:World}:∀ {vs ys:List Value},(vs.map AV.val).length=ys.length→(∀ (i:Nat) c y,(vs.map AV.val)[i]? = some c→ys[i]? = some y→VRep K M w c y)→ys=vs
 | [],[],_,_=>rfl
 | [],_ :: _,h,_=>by simp at h
 | _ :: _,[],h,_=>by simp at h
 | v :: vs,y :: ys,h,hh=>by
  have h0:=hh 0 (.val v) y rfl rfl
  have e:y=v:=by cases h0;rfl
  rw [e,vals_rep (vs:=vs) (ys:=ys) (by simpa using h) fun i c y h1 h2=>hh (i+1) c y (by simpa using h1) (by simpa using h2)]
end Go.Am
end
section
namespace Go.Am
open Go.Proofs
def y3 (es:List (AV × AV)):Bool:=es.all fun p=>p.1.closed && p.2.closed
theorem closedM_sub {es:List (AV × AV)} (h:y3 es=true) (σ:Nat→Sub):(es.map fun p=>(p.1.sub σ,p.2.sub σ))=es:=by
 rw [y3,List.all_eq_true] at h
 conv=>rhs;rw [← List.map_id es]
 refine List.map_congr_left fun p hp=>?_
 have:=h p hp
 rw [Bool.and_eq_true] at this
 rw [zY _ _ _ (Nat.le_refl _) this.1,zY _ _ _ (Nat.le_refl _) this.2];rfl
theorem osrc_amap {H:zz} {M:Nat} {σ:Nat→Sub} {τ:Nat→Option Nat} {b' b:Nat} {es es':List (AV × AV)} (hH:H[b]? = some (.amap es)) (ht:τ b'=some b) (hs:σ b=.to b') (he:es=es') (hcl:y3 es'=true):tm H M σ τ b' (.amap es'):=by
 subst he
 exact .same b _ _ hH ht hs (congrArg AObj.amap (closedM_sub hcl σ))
end Go.Am
end
section
namespace Go.Am
open Go
section
variable {E:Env} {n N:Nat} {F:AFr} {H:zz}
theorem on_codeJ {Q:zL→AFr→zz→Prop} {k:List KI} {a:ACode} (F0:AFr) (H0:zz) (h1:Holds E n N (fun e F' H'=>e=.normal∧Ent E n N F' H' F0 H0) (.code a) [] F H)
 (tail:Holds E n N Q (.out .normal) k F0 H0):Holds E n N Q (.code a) k F H:=by
 refine AWP.entEnd (AWP.mono h1 ?_)
 rintro e F' H' ⟨rfl,he⟩
 exact ⟨F0,H0,he,tail⟩
end
end Go.Am
end
section
namespace Go.Am
section
variable {E:Env} {n N:Nat} {Q:zL→AFr→zz→Prop}
theorem goA (g:Nat) {X:yB} {cur:Cur} {k:List KI} {F:AFr} {H:zz} {c:Cd} {cur':Cur} {k':List KI} {F':AFr} {H':zz} (h:Holds E n N Q cur' k' F' H') (hXs:X=std:=by exact hX) (hm:E.P.follows .mixedOrders=true:=by exact rfl)
 (he:exec X E.G 1000 g cur k F H=(c,cur',k',F',H'):=by conv=>lhs;cbv) (hc:c.ok:=by first | exact trivial | (simp only [Cd.ok,ee];and_intros<;>first | omega | rfl | (simp<;>omega))):Holds E n N Q cur k F H :=
 go hm hXs g he hc h
end
theorem tgA {E:Env} {X:yB} {l:List AOper} {F:AFr} {H:zz} {K:List Kd→List zz→AFr→zz→Prop} {c:Cd} {rest:List AOper} {F':AFr} {H':zz} {ks:List Kd} {Hs:List zz}
 (h:TR E rest F' H' (fun k2 H2=>K (ks++k2) (Hs++H2))) (hXs:X=std:=by exact hX) (he:uL X E.G 1000 l F H=(c,rest,F',H',ks,Hs):=by conv=>lhs;cbv) (hc:c.ok:=by first | exact trivial | (simp only [Cd.ok,ee];and_intros<;>first | omega | rfl | (simp<;>omega))):TR E l F H K:=tr_go hXs he hc h
section
variable {E:Env} {n N:Nat} {Q:zL→AFr→zz→Prop} {k:List KI} {F:AFr} {H:zz}
theorem nsB {X:yB} (hXs:X=std) {l rest:List AOper} {c:Cd} {F':AFr} (he:runT2 X E.G l F H=some (c,rest,F')) (h:Holds E n N Q (.ops rest) k F' H) (hc:c.ok:=by first | exact trivial | (simp only [Cd.ok,ee];and_intros<;>first | omega | rfl | (simp<;>omega))):Holds E n N Q (.ops l) k F H:=ns_go hXs he hc h
end
theorem zt {p:Prop} (h:∀ (iLt:Int→Int→Bool) (iLe:Int→Int→Bool) (iEq:Int→Int→Bool) (iNe:Int→Int→Bool) (iAdd:IntKind→Int→Int→Int) (iSub:IntKind→Int→Int→Int) (iMul:IntKind→Int→Int→Int) (iQuo:IntKind→Int→Int→Int) (iRem:Int→Int→Int) (iShr:IntKind→Int→Int→Int) (iNeg:IntKind→Int→Int) (iCvt:IntKind→Int→Int) (iMax:Int→Int→Int) (iMin:Int→Int→Int) (bNot:Bool→Bool) (bEq:Bool→Bool→Bool) (bNe:Bool→Bool→Bool) (bAnd:Bool→Bool→Bool) (bOr:Bool→Bool→Bool) (sEq:ByteArray→ByteArray→Bool) (sNe:ByteArray→ByteArray→Bool) (sLen:ByteArray→Int) (sCat:ByteArray→ByteArray→ByteArray) (sCut:ByteArray→Int→Int→ByteArray) (sAt:ByteArray→Int→Int) (lenA:List AV→Int) (lenN:List AV→Nat) (iOf:Nat→Int) (natOf:Int→Nat) (atA:List AV→Int→AV) (atN:List AV→Nat→AV) (cutA:List AV→Int→Int→List AV) (partA:List AV→Nat→Nat→List AV) (dropA:List AV→Nat→List AV) (catA:List AV→List AV→List AV) (setA:List AV→Nat→AV→List AV) (repA:Int→AV→List AV) (putA:List AV→Nat→Nat→List AV→List AV) (idxN:Nat→Int→Nat) (addN:Nat→Nat→Nat) (subN:Nat→Int→Nat) (minN:Nat→Nat→Nat) (lenCut:Int→Int→Nat) (rowA:List AV→Int→Nat→List AV) (mOk:Bool→List (AV × AV)→AV→Bool) (mHas:Bool→List (AV × AV)→AV→Bool) (mGet:Bool→List (AV × AV)→AV→AV→AV) (mPut:Bool→List (AV × AV)→AV→AV→List (AV × AV)) (bytA:ByteArray→List AV) (encR:Int→ByteArray),∀ (hX:(⟨iLt,iLe,iEq,iNe,iAdd,iSub,iMul,iQuo,iRem,iShr,iNeg,iCvt,iMax,iMin,bNot,bEq,bNe,bAnd,bOr,sEq,sNe,sLen,sCat,sCut,sAt,lenA,lenN,iOf,natOf,atA,atN,cutA,partA,dropA,catA,setA,repA,putA,idxN,addN,subN,minN,lenCut,rowA,mOk,mHas,mGet,mPut,bytA,encR⟩:yB)=std) (e_iLt:iLt=Wd.iLt) (e_iLe:iLe=Wd.iLe) (e_iEq:iEq=Wd.iEq) (e_iNe:iNe=Wd.iNe) (e_iAdd:iAdd=Wd.iAdd) (e_iSub:iSub=Wd.iSub) (e_iMul:iMul=Wd.iMul) (e_iQuo:iQuo=Wd.iQuo) (e_iRem:iRem=Wd.iRem) (e_iShr:iShr=Wd.iShr) (e_iNeg:iNeg=Wd.iNeg) (e_iCvt:iCvt=Wd.iCvt) (e_iMax:iMax=Wd.iMax) (e_iMin:iMin=Wd.iMin) (e_bNot:bNot=Wd.bNot) (e_bEq:bEq=Wd.bEq) (e_bNe:bNe=Wd.bNe) (e_bAnd:bAnd=Wd.bAnd) (e_bOr:bOr=Wd.bOr) (e_sEq:sEq=Wd.sEq) (e_sNe:sNe=Wd.sNe) (e_sLen:sLen=Wd.sLen) (e_sCat:sCat=Wd.sCat) (e_sCut:sCut=Wd.sCut) (e_sAt:sAt=Wd.sAt) (e_lenA:lenA=Wd.lenA) (e_lenN:lenN=Wd.lenN) (e_iOf:iOf=Wd.iOf) (e_natOf:natOf=Wd.natOf) (e_atA:atA=Wd.atA) (e_atN:atN=Wd.atN) (e_cutA:cutA=Wd.cutA) (e_partA:partA=Wd.partA) (e_dropA:dropA=Wd.dropA) (e_catA:catA=Wd.catA) (e_setA:setA=Wd.setA) (e_repA:repA=Wd.repA) (e_putA:putA=Wd.putA) (e_idxN:idxN=Wd.idxN) (e_addN:addN=Wd.addN) (e_subN:subN=Wd.subN) (e_minN:minN=Wd.minN) (e_lenCut:lenCut=Wd.lenCut) (e_rowA:rowA=Wd.rowA) (e_mOk:mOk=Wd.mOk) (e_mHas:mHas=Wd.mHas) (e_mGet:mGet=Wd.mGet) (e_mPut:mPut=Wd.mPut) (e_bytA:bytA=Wd.bytA) (e_encR:encR=Wd.encR) (ee:((∀ a b,iLt a b=(decide (a<b)))∧(∀ a b,iLe a b=(decide (a≤b)))∧(∀ a b,iEq a b=(a == b))∧(∀ a b,iNe a b=(a != b))∧(∀ k a b,iAdd k a b=(k.wrap (a+b)))∧(∀ k a b,iSub k a b=(k.wrap (a - b)))∧(∀ k a b,iMul k a b=(k.wrap (a * b)))∧(∀ k a b,iQuo k a b=(k.wrap (a.tdiv b)))∧(∀ a b,iRem a b=(a.tmod b))∧(∀ k a b,iShr k a b=(a.fdiv (2 ^ min b.toNat k.bits)))∧(∀ k a,iNeg k a=(k.wrap (0 - a)))∧(∀ k a,iCvt k a=(k.wrap a))∧(∀ a b,iMax a b=(if b > a then b else a))∧(∀ a b,iMin a b=(if b<a then b else a))∧(∀ a,bNot a=(!a))∧(∀ a b,bEq a b=(a == b))∧(∀ a b,bNe a b=(!(a == b)))∧(∀ a b,bAnd a b=(a && b))∧(∀ a b,bOr a b=(a || b))∧(∀ a b,sEq a b=(a.toList == b.toList))∧(∀ a b,sNe a b=(!(a.toList == b.toList)))∧(∀ a,sLen a=(a.size))∧(∀ a b,sCat a b=(a++b))∧(∀ a lo hi,sCut a lo hi=(a.extract lo.toNat hi.toNat))∧(∀ a n,sAt a n=((a.data.getD n.toNat 0).toNat))∧(∀ es,lenA es=(es.length))∧(∀ es,lenN es=(es.length))∧(∀ n,iOf n=(n))∧(∀ n,natOf n=(n.toNat))∧(∀ es n,atA es n=(es.getD n.toNat .undef))∧(∀ es n,atN es n=(es.getD n .undef))∧(∀ es lo hi,cutA es lo hi=((es.take hi.toNat).drop lo.toNat))∧(∀ es lo len,partA es lo len=((es.drop lo).take len))∧(∀ es lo,dropA es lo=(es.drop lo))∧(∀ a b,catA a b=(a++b))∧(∀ es n v,setA es n v=(es.set n v))∧(∀ n v,repA n v=(List.replicate n.toNat v))∧(∀ es lo m new,putA es lo m new=(putE es lo m new))∧(∀ lo n,idxN lo n=(lo+n.toNat))∧(∀ a b,addN a b=(a+b))∧(∀ a b,subN a b=(a - b.toNat))∧(∀ a b,minN a b=(min a b))∧(∀ lo hi,lenCut lo hi=(hi.toNat - lo.toNat))∧(∀ cs n k,rowA cs n k=((cs.drop (n.toNat * k)).take k))∧(∀ st es x,mOk st es x=(mOkL st es x))∧(∀ st es x,mHas st es x=(mHasL st es x))∧(∀ st es x z,mGet st es x z=(mGetL st es x z))∧(∀ st es x v,mPut st es x v=(mPutL st es x v))∧(∀ s,bytA s=(byteA s))∧(∀ n,encR n=(Utf8.encode n)))),p):p :=
 words h
theorem cl_cons {v:AV} {l:List AV} (h:v.closed=true) (h2:AV.closedL l=true):AV.closedL (v :: l)=true:=by simp only [AV.closedL,h,h2,Bool.and_self]
theorem cl_agg {l:List AV} (h:AV.closedL l=true):(AV.agg l).closed=true:=h
theorem cl_isl {k:Nat} {l:List AV} (h:AV.closedL l=true):(AV.isl k l).closed=true:=h
theorem cl_iptr {l:List AV} (h:AV.closedL l=true):(AV.iptr l).closed=true:=h
theorem cl_fn {f:FuncId} {l:List AV} (h:AV.closedL l=true):(AV.fn f l).closed=true:=h
section
variable {E:Env} {n N:Nat} {Q:zL→AFr→zz→Prop} {k:List KI} {F:AFr} {H:zz}
theorem oPA {o:AOper} {l:List AOper} {f:FuncId} {xs:List Opd} {args:List AV} {v:AV} (hc:PCall E f args v) (h:Holds E n N Q (.ops l) k (F.set o.dst v) H) (hg:o.guard=none:=by exact rfl) (ho:o.op=.call f xs:=by exact rfl) (ha:xs.map (·.ev E.G F)=args:=by exact rfl)
 (hcl:AV.closedL args=true:=by repeat' (first | rfl | assumption | apply cl_cons | apply cl_agg | apply cl_isl | apply cl_iptr | apply cl_fn)):Holds E n N Q (.ops (o :: l)) k F H:=v6 hg ho ha hc hcl h
theorem oPG {o:AOper} {l:List AOper} {f:FuncId} {xs:List Opd} {args:List AV} {v:AV} {d:Nat} {b:Bool} (hc:PCall E f args v) (h:Holds E n N Q (.ops l) k (F.set o.dst v) H) (hg:o.guard=some (d,b):=by exact rfl) (hd:F.get d=.val (.bool b):=by exact rfl) (ho:o.op=.call f xs:=by exact rfl) (ha:xs.map (·.ev E.G F)=args:=by exact rfl)
 (hcl:AV.closedL args=true:=by repeat' (first | rfl | assumption | apply cl_cons | apply cl_agg | apply cl_isl | apply cl_iptr | apply cl_fn)):Holds E n N Q (.ops (o :: l)) k F H:=on_gpcall hg hd ho ha hc hcl h
theorem oPT {K:List Kd→List zz→AFr→zz→Prop} {o:AOper} {l:List AOper} {f:FuncId} {xs:List Opd} {args:List AV} {v:AV} (hc:PCall E f args v) (h:TR E l (F.set o.dst v) H (fun ks=>K (.free :: ks))) (hg:zO F o.guard=some true:=by exact rfl) (ho:o.op=.call f xs:=by exact rfl) (ha:xs.map (·.ev E.G F)=args:=by exact rfl)
 (hcl:AV.closedL args=true:=by repeat' (first | rfl | assumption | apply cl_cons | apply cl_agg | apply cl_isl | apply cl_iptr | apply cl_fn)):TR E (o :: l) F H K:=tr_pcall hg ho ha hc hcl h
end
end Go.Am
end
