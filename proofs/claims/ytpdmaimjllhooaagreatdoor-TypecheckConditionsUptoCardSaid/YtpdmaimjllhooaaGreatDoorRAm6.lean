/- The abstract machine that the walks of this claim are carried out on: no condition. -/
import Derived.Test.YtpdmaimjllhooaaGreatDoorRAm5
import Derived.Test.YtpdmaimjllhooaaGreatDoorRAm4
import Derived.LaidLaws
import Derived.Shelf.Sort.Plain
import Derived.Shelf.Slices.In.SortNone
import Derived.Sort.OwnSortedInts
import Derived.Shelf.Slices.CompactI
import Derived.Shelf.Strings.Cut
import Derived.Shelf.Strings.Split
import Derived.Shelf.Strings.Prefix
import Derived.Shelf.Strings.Builder1
section
namespace Go.Am
open Go.ChangeShapes Go.WideShapes Go.ChangeAt Go.RowKit
def ElAll (P:Program):List TypeId→List AV→Prop
 | [],[]=>True
 | t :: ts,x :: xs=>(∃ n,El P (Cl P n) t x)∧ElAll P ts xs
 | _,_=>False
theorem cells_of_ok {P:Program} {w:World} {b:Nat} {t:TypeId} {v:Value} (h:Value.okWide P w .any b t v):(wS P t=true∧∃ cs,v=.agg cs)∨(wS P t=false∧v.cells.toList=[v]∧∀ cs,v≠.agg cs):=by
 unfold Value.okWide at h
 unfold wS
 cases hu:P.underlying t with
 | none=>rw [hu] at h;simp [Cell.okWide,Cell.ok,hu] at h
 | some d =>
  rw [hu] at h
  cases d with
  | struct fs=>obtain ⟨cs,rfl,_⟩:=h;exact .inl ⟨rfl,cs,rfl⟩
  | array m e=>obtain ⟨cs,rfl,_⟩:=h;exact .inl ⟨rfl,cs,rfl⟩
  | _ =>
   right
   refine ⟨rfl,?_⟩
   cases v with
   | agg cs=>simp [Cell.okWide,Cell.ok,hu] at h
   | tuple cs=>simp [Cell.okWide,Cell.ok,hu] at h
   | _=>exact ⟨rfl,by intro cs;simp⟩
theorem Rd.arg {H:Type} {P:Program} {C:Ctx} {w:World} {n:Nat} {t:TypeId} {v:Value} {d:DataW H} {cs:List AV} {b:Nat} (h:Rd P C w n t v.cells.toList d cs) (hok:Value.okWide P w .any b t v) :
 ∃ x,VRep C 0 w x v∧El P (Cl P n) t x∧x.bulk≤xr d:=by
 have hb:=h.bulk
 unfold El
 rcases cells_of_ok hok with ⟨ha,vs,rfl⟩ | ⟨ha,hv,_⟩
 · rw [ha,if_pos rfl] at hb
   refine ⟨.agg cs,?_,by rw [ha,if_pos rfl];exact ⟨cs,rfl,h.cl⟩,by simpa [AV.bulk] using hb⟩
   have:=VRep.agg cs vs.toList (K:=C) (M:=0) (w:=w) (by simpa [Value.cells] using h.len) (fun i c y hc hy=>h.rep i c y hc (by simpa [Value.cells] using hy))
   simpa using this
 · obtain ⟨x,rfl,hx⟩:=h.cl.single ha
   rw [hv] at h
   rw [ha] at hb
   exact ⟨x,h.rep 0 x v rfl rfl,by rw [ha];exact ⟨hx,h.cl⟩,by simpa [AV.bulkL] using hb⟩
theorem read_args {H:Type} {enc:TypeId × Value→H} {P:Program} {T:TypeId→Prop} (K:Kids P T) (hz:∀ t e,T t→P.underlying t=some (.slice e)→0<P.cellsOf e) {C:Ctx} {w:World} (hI:∀ b,b<w.heap.size→C.I b) {b:Nat} :
 ∀ (ts:List TypeId) (vs:List Value) (ds:List (DataW H)) (ps:List MemPlace),(∀ t∈ts,T t)→DataW.TrodAll enc P w 0 (fun _=>true) true ts vs ds ps→(∀ (j:Nat) t v,ts[j]? = some t→vs[j]? = some v→Value.okWide P w .any b t v)→(∀ m∈DataW.weightsEach P ts ds,m≤reachBytes) →
  ∃ xs,VReps C 0 w xs vs∧ElAll P ts xs∧AV.bulkL xs≤dBulkAll ds
 | [],[],[],_,_,_,_,_=>⟨[],⟨rfl,fun i x y h=>by simp at h⟩,trivial,by simp [AV.bulkL]⟩
 | t :: ts,v :: vs,d :: ds,ps,hT,h,hok,hwt=>by
  obtain ⟨p,q,⟨n,hn⟩,h2,_⟩:=h
  obtain ⟨xs,g1,g2,g3⟩:=read_args K hz hI ts vs ds q (fun t ht=>hT t (List.mem_cons_of_mem _ ht)) h2 (fun j t v ht hv=>hok (j+1) t v (by simpa using ht) (by simpa using hv)) (fun m hm=>hwt m (by simp only [DataW.weightsEach,List.mem_append];exact .inr hm))
  obtain ⟨cs,hr⟩:=read_cells K hz hI n t _ _ (hT t List.mem_cons_self) hn (fun m hm=>hwt m (by simp only [DataW.weightsEach,List.mem_append];exact .inl hm))
  obtain ⟨x,k1,k2,k3⟩:=hr.arg (hok 0 t v rfl rfl)
  dsimp only at k3
  refine ⟨x :: xs,⟨by simp [g1.1],fun i x' y' hx hy=>?_⟩,⟨⟨n,k2⟩,g2⟩,by simp only [AV.bulkL,dBulkAll];omega⟩
  cases i with
  | zero=>simp at hx hy;subst hx;subst hy;exact k1
  | succ i=>exact g1.2 i x' y' (by simpa using hx) (by simpa using hy)
 | [],[],_ :: _,_,_,h,_,_=>by simp [DataW.TrodAll] at h
 | [],_ :: _,[],_,_,h,_,_=>by simp [DataW.TrodAll] at h
 | [],_ :: _,_ :: _,_,_,h,_,_=>by simp [DataW.TrodAll] at h
 | _ :: _,[],[],_,_,h,_,_=>by simp [DataW.TrodAll] at h
 | _ :: _,[],_ :: _,_,_,h,_,_=>by simp [DataW.TrodAll] at h
 | _ :: _,_ :: _,[],_,_,h,_,_=>by simp [DataW.TrodAll] at h
theorem TrodAll_carry {H:Type} {enc:TypeId × Value→H} {P:Program} {w w':World} {base:Nat} {sp:Nat→Bool} {hd:Bool}:∀ (ts:List TypeId) (vs:List Value) (ds:List (DataW H)) (ps:List MemPlace),
 DataW.TrodAll enc P w base sp hd ts vs ds ps→(∀ p∈ps,w.sameAt w' p)→DataW.TrodAll enc P w' base sp hd ts vs ds ps
 | [],[],[],_,h,_=>h
 | t :: ts,v :: vs,d :: ds,ps,h,hs=>by
  obtain ⟨p,q,⟨n,hn⟩,h2,rfl⟩:=h
  exact ⟨p,q,⟨n,DataW.trod_carry n _ _ _ hn fun x hx=>hs x (List.mem_append_left _ hx)⟩,TrodAll_carry ts vs ds q h2 fun x hx=>hs x (List.mem_append_right _ hx),rfl⟩
 | [],[],_ :: _,_,h,_=>by simp [DataW.TrodAll] at h
 | [],_ :: _,[],_,h,_=>by simp [DataW.TrodAll] at h
 | [],_ :: _,_ :: _,_,h,_=>by simp [DataW.TrodAll] at h
 | _ :: _,[],[],_,h,_=>by simp [DataW.TrodAll] at h
 | _ :: _,[],_ :: _,_,h,_=>by simp [DataW.TrodAll] at h
 | _ :: _,_ :: _,[],_,h,_=>by simp [DataW.TrodAll] at h
def Held (w w':World):Prop:=(∀ b,b<w.heap.size→w'.heap[b]? = w.heap[b]?)∧w'.os=w.os∧w'.output=w.output
theorem Held.same {w w':World} (h:Held w w') (p:MemPlace) (hp:p.block<w.heap.size):w.sameAt w' p:=by
 have:=h.1 _ hp
 cases p with
 | cell b o=>simp only [MemPlace.block] at this;simp only [World.sameAt,World.cell?];rw [this]
 | map b=>simp only [MemPlace.block] at this;simp only [World.sameAt];rw [this]
theorem Held.kept {w w':World} (h:Held w w') (may:MemPlace→Prop):w.keptBut w' may:=by
 refine ⟨h.2.1,h.2.2,fun i hi=>?_⟩
 rw [h.1 i hi]
 obtain ⟨o,ho⟩:∃ o,w.heap[i]? = some o:=⟨_,Array.getElem?_eq_getElem hi⟩
 rw [ho]
 cases o with
 | cells c t fr=>exact ⟨rfl,rfl,rfl,fun j _=>rfl⟩
 | map es clock=>exact .inr ⟨rfl,rfl⟩
 | _=>rfl
theorem Held.frozen {w w':World} (h:Held w w') (a:Addr) (ha:a.block<w.heap.size):w'.frozen? a=w.frozen? a:=by
 unfold World.frozen?;rw [h.1 _ ha]
theorem law_postG {H:Type} {enc:TypeId × Value→H} {E:Env} {f:FuncId} {fn:Func} {s:ChangeSpec} {fresh handsOn again:Bool} (K:Kids E.P (· < E.P.types.size)) (hz:∀ t e,t<E.P.types.size→E.P.underlying t=some (.slice e)→0<E.P.cellsOf e)
 (hvars:s.vars=[]) (hts:∀ t∈fn.params.toList,t<E.P.types.size) {tb:TypeId} (hres:fn.resultTypes = #[tb]) (hb:E.P.underlying tb=some .bool) (hspec:∀ ds:List (DataW H),ds.length=fn.params.size→s.fn H ds=⟨[.lit (.bool true)],ds,[]⟩)
 {W:World} (hglob:∀ g,VRep ⟨fun _=>none,fun b=>b<W.heap.size⟩ 0 W (E.G g) (.pointer (some ⟨g,0,none⟩))) {base:Nat} {args:Array Value} {ds gs:List (DataW H)} {before:List MemPlace} (hval:∀ (j:Nat) t v,fn.params[j]? = some t→args[j]? = some v→Value.okWide E.P W .any base t v)
 (hW:DataW.Whole enc E.P fn.params.toList s.vars false W args.toList ds gs before)
 (hwt:(DataW.weightsEach E.P (fn.params.toList++s.plain.varTypes E.P) (ds++gs)).all (·≤reachBytes)=true)
 (hlaw:∀ xs,ElAll E.P fn.params.toList xs→AV.bulkL xs≤dBulkAll ds→PCall E f xs (.val (.bool true))) :
 Calls E.P f args W fun e W'=>∃ v,e=.returned v∧s.post enc E.P fn false fresh handsOn again W args v W':=by
 have hW':=hW
 obtain ⟨p,q,hA,hV,rfl,hfz,_⟩:=hW
 rw [hvars] at hV
 obtain ⟨rfl,rfl⟩:=trodVars_none hV
 simp only [List.append_nil] at hW' hfz
 have hlt:∀ x∈p,x.block<W.heap.size:=fun x hx=>by simpa using hW'.lt x hx
 obtain ⟨xs,h1,h2,h3⟩:=read_args (C:=⟨fun _=>none,fun b=>b<W.heap.size⟩) (b:=base) K hz (fun b hb=>hb) fn.params.toList args.toList ds p hts hA (fun j t v ht hv=>hval j t v (by simpa using ht) (by simpa using hv)) (fun m hm=>by
  have:s.plain.varTypes E.P=[]:=by simp [ChangeSpec.plain,DataSpec.varTypes,hvars]
  rw [this] at hwt
  simp only [List.append_nil] at hwt
  exact of_decide_eq_true (List.all_eq_true.1 hwt m hm))
 have hh:HRep E ⟨fun _=>none,fun b=>b<W.heap.size⟩ W []:=by
  refine ⟨fun b o h=>by simp at h,fun b b' o o' _ _ _ h=>by simp at h,fun b ⟨_,_,_,h,_⟩=>by simp at h,fun b hb=>hb,hglob⟩
 have hl:=(hlaw xs h2 h3).2 _ W args.toList hh h1
 rw [show args.toList.toArray=args from rfl] at hl
 refine hl.mono fun e W'=>?_
 rintro ⟨v,y,H',K',rfl,⟨rfl,rfl⟩,hh',hv,ev⟩
 cases hv with
 | val _ _ =>
 have held:Held W W':=⟨fun b hb=>ev.frame b hb (by rintro ⟨_,_,_,h,_⟩;simp at h),ev.os,ev.out⟩
 have hdl:ds.length=fn.params.size:=by
  have:∀ (ts:List TypeId) (vs:List Value) (ds:List (DataW H)) (ps:List MemPlace),DataW.TrodAll enc E.P W 0 (fun _=>true) true ts vs ds ps→ds.length=ts.length:=by
   intro ts
   induction ts with
   | nil=>intro vs ds ps h;cases vs<;>cases ds<;>simp_all [DataW.TrodAll]
   | cons t ts ih =>
    intro vs ds ps h
    cases vs with
    | nil=>simp [DataW.TrodAll] at h
    | cons v vs =>
     cases ds with
     | nil=>simp [DataW.TrodAll] at h
     | cons d ds=>obtain ⟨_,_,_,h2,_⟩:=h;simp [ih _ _ _ h2]
  simpa using this _ _ _ _ hA
 have hfn:=hspec ds hdl
 have hA':∀ sp:Nat→Bool,(∀ x∈p,sp x.block=true)→DataW.TrodAll enc E.P W' 0 sp true fn.params.toList args.toList ds p:=fun sp hsp =>
  TrodAll_carry _ _ _ _ (DataW.TrodAll.respare K hz hts hA hsp) fun x hx=>held.same x (hlt x hx)
 have hR:∀ (b:Nat) (sp:Nat→Bool) (hd:Bool),DataW.TrodAll enc E.P W' b sp hd fn.resultTypes.toList ((Value.bool true).resultList fn.resultTypes.size) [.lit (.bool true)] []:=fun b sp hd=>by
  rw [hres];exact trodAll_mk1 (shut_bool hb true)
 have hVn:∀ sp:Nat→Bool,DataW.TrodVars enc E.P W' sp s.vars ([]:List (DataW H)) []:=fun sp=>by rw [hvars];rfl
 refine ⟨_,rfl,ds,[],p,[],p,[],hW',?_,?_,?_,held.kept _,fun _=>⟨?_,?_⟩⟩
 · rw [List.append_nil,hfn];exact hR _ _ _
 · rw [List.append_nil,hfn];exact hA' _ fun x hx=>by simpa using hlt x hx
 · rw [List.append_nil,hfn];exact hVn _
 · exact ok_one (t:=tb) hres rfl (okWide_bool_mk hb true)
 · refine ⟨_,[],p,⟨p,[],trodAll_append (hA' (fun _=>true) fun _ _=>rfl) (hR _ _ _),hVn _,by simp,fun b o hp=>?_,fun h=>by cases h⟩,fun x hx _=>hx⟩
   rw [held.frozen _ (hlt _ hp)]
   exact hfz b o hp
def ClF (P:Program) (m:Nat):List TypeId→List AV→Prop
 | [],cs=>cs=[]
 | t :: ts,cs=>∃ a b,cs=a++b∧Cl P m t a∧ClF P m ts b
section
variable {P:Program} {n:Nat} {t:TypeId} {cs:List AV}
theorem Cl.int {k:IntKind} (hu:P.underlying t=some (.int k)) (h:Cl P n t cs):∃ i,cs=[.val (.int k i)]∧(Lit.int k i).wf=true:=by
 cases n with
 | zero=>exact h.elim
 | succ n=>unfold Cl at h;rw [hu] at h;exact h
theorem Cl.bool (hu:P.underlying t=some .bool) (h:Cl P n t cs):∃ b,cs=[.val (.bool b)]:=by
 cases n with
 | zero=>exact h.elim
 | succ n=>unfold Cl at h;rw [hu] at h;exact h
theorem Cl.str (hu:P.underlying t=some .string) (h:Cl P n t cs):∃ s:ByteArray,cs=[.val (.string s)]∧s.size≤reachBytes:=by
 cases n with
 | zero=>exact h.elim
 | succ n=>unfold Cl at h;rw [hu] at h;exact h
theorem Cl.slice {e:TypeId} (hu:P.underlying t=some (.slice e)) (h:Cl P n t cs):∃ m es,cs=[.isl (P.cellsOf e) es]∧es.length * P.bytesOf e≤reachBytes∧∀ x∈es,El P (Cl P m) e x:=by
 cases n with
 | zero=>exact h.elim
 | succ n=>unfold Cl at h;rw [hu] at h;exact ⟨n,h⟩
theorem Cl.struct {fs:Array Field} (hu:P.underlying t=some (.struct fs)) (h:Cl P n t cs):∃ m,ClF P m (fs.toList.map (·.type)) cs:=by
 cases n with
 | zero=>exact h.elim
 | succ n =>
  unfold Cl at h;rw [hu] at h
  obtain ⟨css,rfl,hl,hc⟩:=h
  refine ⟨n,?_⟩
  obtain ⟨fs⟩:=fs
  dsimp only at hc ⊢
  have hc':∀ (i:Nat) f c,fs[i]? = some f→css[i]? = some c→Cl P n f.type c:=fun i f c hf hcc=>hc i f c (by simpa using hf) hcc
  have hl':css.length=fs.length:=by simpa using hl
  clear hc hl hu
  induction fs generalizing css with
  | nil=>cases css with
   | nil=>rfl
   | cons c css=>simp at hl'
  | cons f fs ih=>cases css with
   | nil=>simp at hl'
   | cons c css=>exact ⟨c,css.flatten,by simp,hc' 0 f c rfl rfl,ih css (fun i f c hf hcc=>hc' (i+1) f c (by simpa using hf) (by simpa using hcc)) (by simpa using hl')⟩
theorem Cl.array {m:Nat} {e:TypeId} (hu:P.underlying t=some (.array m e)) (h:Cl P n t cs):∃ m',ClF P m' (List.replicate m e) cs:=by
 cases n with
 | zero=>exact h.elim
 | succ n =>
  unfold Cl at h;rw [hu] at h
  obtain ⟨css,rfl,hl,hc⟩:=h
  refine ⟨n,?_⟩
  clear hu
  induction m generalizing css with
  | zero=>cases css with
   | nil=>rfl
   | cons c css=>simp at hl
  | succ m ih=>cases css with
   | nil=>simp at hl
   | cons c css=>exact ⟨c,css.flatten,by simp,hc c (by simp),ih css (by simpa using hl) (fun c hcc=>hc c (by simp [hcc]))⟩
theorem El.agg {c:TypeId→List AV→Prop} {x:AV} (ha:wS P t=true) (h:El P c t x):∃ cs,x=.agg cs∧c t cs:=by
 unfold El at h;rw [ha] at h;exact h
theorem El.one {c:TypeId→List AV→Prop} {x:AV} (ha:wS P t=false) (h:El P c t x):c t [x]:=by
 unfold El at h;rw [ha] at h;exact h.2
end
theorem xN {α:Type} {enc:α→AV} {ok:α→Prop}:∀ {es:List AV},(∀ x∈es,∃ c,x=enc c∧ok c)→∃ l:List α,es=mapE enc l∧∀ c∈l,ok c
 | [],_=>⟨[],by simp [zk],fun c h=>by simp at h⟩
 | x :: es,h=>by
  obtain ⟨c,rfl,hc⟩:=h x List.mem_cons_self
  obtain ⟨l,rfl,hl⟩:=xN fun x hx=>h x (List.mem_cons_of_mem _ hx)
  exact ⟨c :: l,by simp [zk],fun c' h'=>by
   rcases List.mem_cons.1 h' with rfl | h'
   · exact hc
   · exact hl c' h'⟩
end Go.Am
end
section
namespace Go.Am
mutual
def tm {H:Type}:DataW H→List Value
 | .lit (.bool b)=>[.bool b]
 | .lit (.int k n)=>[.int k n]
 | .lit (.string s)=>[.string ⟨s.toArray⟩]
 | .agg ds=>flatDs ds
 | _=>[]
def flatDs {H:Type}:List (DataW H)→List Value
 | []=>[]
 | d :: r=>tm d++flatDs r
end
def tF (P:Program):Nat→List Field→Option Nat
 | off,[]=>some off
 | off,f :: fs=>if Nat.beq f.offset off then tF P (off+P.cellsOf f.type) fs else none
def up (P:Program):Nat→TypeId→Bool
 | 0,_=>false
 | n+1,t=>match P.underlying t with
  | some .bool=>true
  | some (.int _)=>true
  | some .string=>true
  | some (.struct fs)=>fs.toList.all (fun f=>up P n f.type) && (match tF P 0 fs.toList with | some k=>Nat.beq k (P.cellsOf t) | none=>false)
  | some (.array m e)=>up P n e && Nat.beq (m * P.cellsOf e) (P.cellsOf t)
  | _=>false
theorem mapM_cons_some {α β:Type} {f:α→Option β} {a:α} {l:List α} {r:List β} (h:(a :: l).mapM f=some r):∃ b r',f a=some b∧l.mapM f=some r'∧r=b :: r':=by
 rw [List.mapM_cons] at h
 simp only [Option.bind_eq_bind,Option.pure_def] at h
 obtain ⟨b,hb,h⟩:=Option.bind_eq_some_iff.1 h
 obtain ⟨r',hr,h⟩:=Option.bind_eq_some_iff.1 h
 exact ⟨b,r',hb,hr,by simpa using h.symm⟩
theorem flat_fields {H:Type} {P:Program} {n:Nat} {cs:List Value} {g:TypeId→List Value→Option (DataW H × List MemPlace)} (hg:∀ t c d p,up P n t=true→g t c=some (d,p)→c=tm d):∀ (fs:List Field) (off tot:Nat) (xs:List (DataW H × List MemPlace)),(∀ f∈fs,up P n f.type=true)→tF P off fs=some tot→(fs.mapM fun f=>g f.type ((cs.drop f.offset).take (P.cellsOf f.type)))=some xs→cs.drop off=flatDs (xs.map (·.1))++cs.drop tot
 | [],off,tot,xs,_,ho,hm=>by
  simp [tF] at ho;subst ho
  have:xs=[]:=by simpa using hm.symm
  subst this;simp [flatDs]
 | f :: fs,off,tot,xs,hf,ho,hm=>by
  simp only [tF] at ho
  split at ho
  · rename_i hb
    have e:=Nat.eq_of_beq_eq_true hb
    obtain ⟨b,r,h1,h2,rfl⟩:=mapM_cons_some hm
    have h3:=hg _ _ _ _ (hf f List.mem_cons_self) h1
    have h4:=flat_fields hg fs _ _ r (fun f hf'=>hf f (List.mem_cons_of_mem _ hf')) ho h2
    rw [e] at h3
    simp only [List.map_cons,flatDs]
    rw [← h3,List.append_assoc,← h4,← List.drop_drop,List.take_append_drop]
  · cases ho
theorem flat_elems {H:Type} {cs:List Value} {k:Nat} {g:List Value→Option (DataW H × List MemPlace)} (hg:∀ c d p,g c=some (d,p)→c=tm d):∀ (m s:Nat) (xs:List (DataW H × List MemPlace)),((List.range' s m).mapM fun i=>g ((cs.drop (i * k)).take k))=some xs→cs.drop (s * k)=flatDs (xs.map (·.1))++cs.drop ((s+m) * k)
 | 0,s,xs,hm=>by
  have:xs=[]:=by simpa using hm.symm
  subst this;simp [flatDs]
 | m+1,s,xs,hm=>by
  rw [List.range'_succ] at hm
  obtain ⟨b,r,h1,h2,rfl⟩:=mapM_cons_some hm
  have h3:=hg _ _ _ h1
  have h4:=flat_elems hg m (s+1) r h2
  simp only [List.map_cons,flatDs]
  rw [← h3,List.append_assoc,show s+(m+1)=s+1+m by omega,← h4,Nat.add_mul,Nat.one_mul,← List.drop_drop,List.take_append_drop]
theorem trod_flat {H:Type} {enc:TypeId × Value→H} {P:Program} {w:World} {base:Nat} {sp:Nat→Bool} {held:Bool}:∀ (fuel n:Nat) (t:TypeId) (cs:List Value) (d:DataW H) (p:List MemPlace),up P n t=true→DataW.trod enc P w base sp held fuel t cs=some (d,p)→cs=tm d
 | 0,_,_,_,_,_,_,h=>by simp [DataW.trod] at h
 | fuel+1,0,_,_,_,_,hf,_=>by cases hf
 | fuel+1,n+1,t,cs,d,p,hf,h=>by
  unfold up at hf
  split at hf
  · rename_i hu
    obtain ⟨b,rfl,e⟩:=DataW.trod_bool hu h
    cases e;rfl
  · rename_i k hu
    obtain ⟨z,rfl,e,_⟩:=DataW.trod_int hu h
    cases e;rfl
  · rename_i hu
    obtain ⟨z,rfl,e,_⟩:=DataW.trod_string hu h
    cases e;rfl
  · rename_i fs hu
    simp only [Bool.and_eq_true,List.all_eq_true] at hf
    obtain ⟨h1,h2⟩:=hf
    split at h2
    · rename_i k hk
      have h2:=Nat.eq_of_beq_eq_true h2
      simp only [DataW.trod,hu] at h
      split at h
      · rename_i hl
        obtain ⟨xs,hm,hx⟩:=Option.map_eq_some_iff.1 h
        have:=flat_fields (n:=n) (fun t c d p a b=>trod_flat fuel n t c d p a b) fs.toList 0 k xs h1 hk hm
        rw [List.drop_zero,h2,← hl,List.drop_length,List.append_nil] at this
        cases hx
        exact this
      · cases h
    · cases h2
  · rename_i m e hu
    simp only [Bool.and_eq_true] at hf
    have h2:=Nat.eq_of_beq_eq_true hf.2
    simp only [DataW.trod,hu] at h
    split at h
    · rename_i hl
      obtain ⟨xs,hm,hx⟩:=Option.map_eq_some_iff.1 h
      rw [List.range_eq_range'] at hm
      have:=flat_elems (k:=P.cellsOf e) (fun c d p b=>trod_flat fuel n e c d p hf.1 b) m 0 xs hm
      rw [Nat.zero_mul,List.drop_zero,Nat.zero_add,h2,← hl,List.drop_length,List.append_nil] at this
      cases hx
      exact this
    · cases h
  · cases hf
theorem laid_cells {P:Program} {W:World}:∀ {laid:List (String × DataW Unit)} {ps:List MemPlace},DataW.LaidVars P W laid ps→∀ {name:String} {d:DataW Unit},(name,d)∈laid→∀ {g n:Nat} {t:TypeId},P.globalNamed name=some g→(P.globals[g]?).map (·.type)=some t→up P n t=true→W.var? P name=some (tm d).toArray
 | [],_,_,_,_,hm,_,_,_,_,_,_=>by cases hm
 | (n0,d0) :: r,ps,h,name,d,hm,g,n,t,hg,ht,hf=>by
  obtain ⟨g',t',cs,fuel,p,q,hg',ht',hvar,hd,hr,_⟩:=h
  rcases List.mem_cons.1 hm with e | hm
  · cases e
    obtain rfl:=Option.some.inj (hg.symm.trans hg')
    obtain rfl:=Option.some.inj (ht.symm.trans ht')
    rw [hvar,← trod_flat fuel n t _ _ _ hf hd]
  · exact laid_cells hr hm hg ht hf
theorem glob_rep {P:Program} {W:World} {name:String} {g:Nat} {vs:List Value} {cs:List AV} (hv:W.var? P name=some vs.toArray) (hg:P.globalNamed name=some g) (hcs:cs=vs.map .val) (hna:∀ v∈vs,∀ c,v≠.agg c) :
 VRep ⟨fun _=>none,fun b=>b<W.heap.size⟩ 0 W (.iptr cs) (.pointer (some ⟨g,0,none⟩)):=by
 unfold World.var? at hv
 rw [hg,Option.bind_some] at hv
 split at hv
 · rename_i c ty fz hh
   obtain rfl:=Option.some.inj hv
   subst hcs
   refine .iptr _ (fun j=>vs.getD j undef) g 0 (Array.getElem?_eq_some_iff.1 hh).1 (fun j c hj=>?_) (fun j c hj=>?_)
   · rw [List.getElem?_map] at hj
     obtain ⟨v,hv,rfl⟩:=Option.map_eq_some_iff.1 hj
     simp [World.cell?,hh,List.getD_eq_getElem?_getD,hv]
   · rw [List.getElem?_map] at hj
     obtain ⟨v,hv,rfl⟩:=Option.map_eq_some_iff.1 hj
     rw [List.getD_eq_getElem?_getD,hv]
     exact .val _ (hna v (List.mem_of_getElem? hv))
 · cases hv
end Go.Am
end
section
namespace Go.Am
inductive Wk2 (M:Nat):AV→AV→Prop
 | wk (v v':AV) (h:Wk M v v'):Wk2 M v v'
 | agg (cs cs':List AV) (hl:cs.length=cs'.length) (h:∀ (i:Nat) c c',cs[i]? = some c→cs'[i]? = some c'→Wk2 M c c'):Wk2 M (.agg cs) (.agg cs')
 | tup (cs cs':List AV) (hl:cs.length=cs'.length) (h:∀ (i:Nat) c c',cs[i]? = some c→cs'[i]? = some c'→Wk2 M c c'):Wk2 M (.tup cs) (.tup cs')
 | isl (k:Nat) (es es':List AV) (hl:es.length=es'.length) (hc:∀ (i:Nat) e e',es[i]? = some e→es'[i]? = some e'→e.cells.length=e'.cells.length)
  (h:∀ (i:Nat) e e' (j:Nat) c c',es[i]? = some e→es'[i]? = some e'→e.cells[j]? = some c→e'.cells[j]? = some c'→Wk2 M c c'):Wk2 M (.isl k es) (.isl k es')
theorem Wk2.rep {K:Ctx} {M:Nat} {w:World} {v v':AV} (h:Wk2 M v v'):∀ {y:Value},VRep K M w v y→VRep K M w v' y:=by
 induction h with
 | wk v v' h=>exact fun hy=>h.rep hy
 | agg cs cs' hl _ ih =>
  intro y h
  cases h with
  | agg _ ys hl2 h =>
   refine .agg cs' ys (hl ▸ hl2) fun i c' y hc hy=>?_
   obtain ⟨c,hc1⟩:∃ c,cs[i]? = some c:=⟨_,List.getElem?_eq_getElem (by have:=(List.getElem?_eq_some_iff.1 hc).1;omega)⟩
   exact ih i c c' hc1 hc (h i c y hc1 hy)
 | tup cs cs' hl _ ih =>
  intro y h
  cases h with
  | tup _ ys hl2 h =>
   refine .tup cs' ys (hl ▸ hl2) fun i c' y hc hy=>?_
   obtain ⟨c,hc1⟩:∃ c,cs[i]? = some c:=⟨_,List.getElem?_eq_getElem (by have:=(List.getElem?_eq_some_iff.1 hc).1;omega)⟩
   exact ih i c c' hc1 hc (h i c y hc1 hy)
 | isl k es es' hl hcl _ ih =>
  intro y h
  cases h with
  | islnil _ =>
   have:es'=[]:=List.length_eq_zero_iff.1 hl.symm
   subst this
   exact .islnil k
  | isl _ _ f a cap hle hI hk hc h =>
   have el:∀ (i:Nat) e',es'[i]? = some e'→∃ e,es[i]? = some e:=fun i e' he=>⟨_,List.getElem?_eq_getElem (by have:=(List.getElem?_eq_some_iff.1 he).1;omega)⟩
   have cl:∀ (i:Nat) e e' (j:Nat) c',es[i]? = some e→es'[i]? = some e'→e'.cells[j]? = some c'→∃ c,e.cells[j]? = some c:=fun i e e' j c' h1 h2 h3=>⟨_,List.getElem?_eq_getElem (by have:=(List.getElem?_eq_some_iff.1 h3).1;have:=hcl i e e' h1 h2;omega)⟩
   have:=VRep.isl (K:=K) (M:=M) (w:=w) k es' f a cap (hl ▸ hle) (fun hne=>hI fun h0=>hne (by subst h0;exact List.length_eq_zero_iff.1 hl.symm))
    (fun i e' he'=>by obtain ⟨e,he⟩:=el i e' he';rw [← hcl i e e' he he'];exact hk i e he)
    (fun i e' j c' he' hc'=>by
     obtain ⟨e,he⟩:=el i e' he'
     obtain ⟨c,hc1⟩:=cl i e e' j c' he he' hc'
     exact hc i e j c he hc1)
    (fun i e' j c' he' hc'=>by
     obtain ⟨e,he⟩:=el i e' he'
     obtain ⟨c,hc1⟩:=cl i e e' j c' he he' hc'
     exact ih i e e' j c c' he he' hc1 hc' (h i e j c he hc1))
   rw [← hl] at this
   exact this
def Wk2L (M:Nat):List AV→List AV→Prop
 | [],[]=>True
 | c :: cs,d :: ds=>Wk2 M c d∧Wk2L M cs ds
 | _,_=>False
theorem Wk2L.spec {M:Nat}:∀ {cs ds:List AV},Wk2L M cs ds→cs.length=ds.length∧∀ (i:Nat) c c',cs[i]? = some c→ds[i]? = some c'→Wk2 M c c'
 | [],[],_=>⟨rfl,fun i c c' h=>by simp at h⟩
 | c :: cs,d :: ds,h=>by
  obtain ⟨h1,h2⟩:=h.2.spec
  refine ⟨by simp [h1],fun i x y hx hy=>?_⟩
  cases i with
  | zero=>cases hx;cases hy;exact h.1
  | succ i=>exact h2 i x y (by simpa using hx) (by simpa using hy)
 | [],_ :: _,h=>h.elim
 | _ :: _,[],h=>h.elim
theorem Wk2.agg' {M:Nat} {cs ds:List AV} (h:Wk2L M cs ds):Wk2 M (.agg cs) (.agg ds):=.agg _ _ h.spec.1 h.spec.2
theorem Wk2.tup' {M:Nat} {cs ds:List AV} (h:Wk2L M cs ds):Wk2 M (.tup cs) (.tup ds):=.tup _ _ h.spec.1 h.spec.2
theorem Wk2.refl {M:Nat} (v:AV):Wk2 M v v:=.wk _ _ (.refl _)
theorem Wk2.nilI {M:Nat} (k:Nat):Wk2 M (.val (.slice none 0 0)) (.isl k []):=.wk _ _ (.nilI k)
theorem Wk2.of {M:Nat} {v v':AV} (h:v=v'):Wk2 M v v':=h ▸ .refl _
def Wk2E (M:Nat):List AV→List AV→Prop
 | [],[]=>True
 | c :: cs,d :: ds=>Wk2L M c.cells d.cells∧Wk2E M cs ds
 | _,_=>False
theorem Wk2E.spec {M:Nat}:∀ {cs ds:List AV},Wk2E M cs ds→cs.length=ds.length∧∀ (i:Nat) c c',cs[i]? = some c→ds[i]? = some c'→Wk2L M c.cells c'.cells
 | [],[],_=>⟨rfl,fun i c c' h=>by simp at h⟩
 | c :: cs,d :: ds,h=>by
  obtain ⟨h1,h2⟩:=h.2.spec
  refine ⟨by simp [h1],fun i x y hx hy=>?_⟩
  cases i with
  | zero=>cases hx;cases hy;exact h.1
  | succ i=>exact h2 i x y (by simpa using hx) (by simpa using hy)
 | [],_ :: _,h=>h.elim
 | _ :: _,[],h=>h.elim
theorem Wk2.isl' {M k:Nat} {es es':List AV} (h:Wk2E M es es'):Wk2 M (.isl k es) (.isl k es') :=
 .isl k es es' h.spec.1 (fun i e e' h1 h2=>(h.spec.2 i e e' h1 h2).spec.1) (fun i e e' j c c' h1 h2 h3 h4=>(h.spec.2 i e e' h1 h2).spec.2 j c c' h3 h4)
theorem Wk2L.refl {M:Nat}:∀ cs:List AV,Wk2L M cs cs
 | []=>trivial
 | c :: cs=>⟨.refl c,.refl cs⟩
theorem PCall.weak2 {E:Env} {f:FuncId} {args:List AV} {v v':AV} (h:PCall E f args v) (hw:Wk2 0 v v'):PCall E f args v' :=
 ⟨h.1,fun K w ys a b=>(h.2 K w ys a b).mono fun e w' ⟨u,y,H',K',h1,⟨h2,h2'⟩,h3,h4,h5⟩=>⟨v',y,H',K',h1,⟨rfl,h2'⟩,h3,by subst h2;subst h2';exact hw.rep h4,h5⟩⟩
def SWkL (σ:Nat→Sub):List AV→List AV→Prop
 | [],[]=>True
 | c :: cs,d :: ds=>Wk 0 (c.sub σ) d∧SWkL σ cs ds
 | _,_=>False
theorem SWkL.wkL {σ:Nat→Sub}:∀ {cs ds:List AV},SWkL σ cs ds→WkL 0 (AV.subL σ cs) ds
 | [],[],_=>trivial
 | _c :: _cs,_d :: _ds,h=>⟨h.1,h.2.wkL⟩
 | [],_ :: _,h=>h.elim
 | _ :: _,[],h=>h.elim
def LendOk (H:zz) (args args':List AV):Prop:=∃ L,SubL H 0 [] (ofL L) 0 L∧SWkL (ofL L) args args'
theorem yp {E:Env} {n N:Nat} {Q:zL→AFr→zz→Prop} {k:List KI} {F:AFr} {H:zz} {o:AOper} {l:List AOper} {f:FuncId} {xs:List Opd} {args':List AV} {v:AV} (hg:zK F o.guard=some true) (ho:o.op=.call f xs)
 (hc:PCall E f args' v) (hfl:v.flat=true) (hl:LendOk H (xs.map (·.ev E.G F)) args') (h:Holds E n N Q (.ops l) k (F.set o.dst v) H):Holds E n N Q (.ops (o :: l)) k F H:=by
 obtain ⟨L,h1,h2⟩:=hl
 exact aops_lcall L hg ho rfl h1 rfl (hc.weak h2.wkL) hfl h
end Go.Am
end
section
namespace Go.Am
open Go.Shelf Go.Sort Go.Proofs
def yH (zs:List Int):List Int:=zs.mergeSort fun x y=>decide (x≤y)
theorem putCells_len (d:Array Int) (off:Nat) (c:Array Value):(putCells (Value.int .i64) off d c).size=c.size:=by simp [putCells]
theorem putCells_at {ts:List Int} {off:Nat} {c:Array Value} {j:Nat} (hj:j<ts.length) (hc:off+j<c.size):(putCells (Value.int .i64) off ts.toArray c)[off+j]? = some (.int .i64 ts[j]):=by
 simp [putCells,hj,hc]
theorem sort_nil : yH []=[]:=by simp [yH]
theorem sort_acall {E:Env} {ρ:Ren} (Ly:Lays.n189 E.P ρ) (zs:List Int) (hsz:zs.length<4611686018427387904) :
 ACall E (ρ.f 189) [.sl 0 1 0 zs.length] [.arr 1 (zs.map fun z=>.val (.int .i64 z))] fun v H'=>v=.tup []∧H'=[.arr 1 ((yH zs).map fun z=>.val (.int .i64 z))]:=by
 intro K w ys hh hv
 have hlen:(yH zs).length=zs.length:=by simp [yH,List.length_mergeSort]
 obtain ⟨y,rfl⟩:∃ y,ys=[y]:=by
  match ys,hv.1 with
  | [y],_=>exact ⟨y,rfl⟩
 have v0:=hv.2 0 _ y rfl rfl
 have tupr:∀ (K:Ctx) (M:Nat) (w:World),VRep K M w (.tup []) (.tuple #[]):=fun K M w=>.tup [] [] rfl fun i c y h=>by simp at h
 have nil:zs=[]→∀ (p:Option Addr),y=.slice p 0 0→Calls E.P (ρ.f 189) [y].toArray w fun e w'=>∃ v y H' K',e=.returned y∧(v=.tup []∧H'=[.arr 1 ((yH zs).map fun z=>.val (.int .i64 z))])∧HRep E K' w' H'∧VRep K' H'.length w' v y∧Ev 1 K [.arr 1 (zs.map fun z=>.val (.int .i64 z))] w K' H' w':=by
  rintro rfl p rfl
  refine (Any.slices_Sort_int_none Ly p 0 w).mono ?_
  rintro e w' ⟨rfl,rfl⟩
  exact ⟨_,_,_,K,rfl,⟨rfl,rfl⟩,by rw [sort_nil];exact hh,tupr _ _ _,by rw [sort_nil];exact Ev.refl _ _ _ _ (Nat.le_refl _)⟩
 generalize hz:zs.length=m at v0
 cases v0 with
 | slnil _ _ _ hM=>exact nil (List.length_eq_zero_iff.1 hz) none rfl
 | sl0 _ _ _ a hM=>exact nil (List.length_eq_zero_iff.1 hz) (some a) rfl
 | sl _ _ _ _ cap blk base hM hγ hle hs =>
  subst hz
  by_cases h0:zs=[]
  · subst h0
    refine (Any.slices_Sort_int_none Ly _ cap w).mono ?_
    rintro e w' ⟨rfl,rfl⟩
    exact ⟨_,_,_,K,rfl,⟨rfl,rfl⟩,by rw [sort_nil];exact hh,tupr _ _ _,by rw [sort_nil];exact Ev.refl _ _ _ _ (Nat.le_refl _)⟩
  have ho:=hh.obj 0 _ rfl
  rw [hγ] at ho
  generalize hes:(zs.map fun z=>AV.val (.int .i64 z))=es at ho
  cases ho with
  | arr _ _ _ _ c ty hb hk hl =>
   have hel:es.length=zs.length:=by rw [← hes];simp
   have hat:∀ j (hj:j<zs.length),c[base+j]? = some (.int .i64 zs[j]):=by
    intro j hj
    have he:es[j]? = some (.val (.int .i64 zs[j])):=by rw [← hes];simp [hj]
    obtain ⟨y,h1,h2⟩:=hl j _ he 0 _ rfl
    cases h2
    simpa using h1
   have hH:Go.Sort.Holds (Value.int .i64) w blk base zs.toArray:=by
    intro j hj
    have hj':j<zs.length:=by simpa using hj
    refine ⟨?_,by simp [World.frozen?,hb]⟩
    simp only [World.cell?,hb,Option.isSome_none,Bool.false_eq_true,if_false]
    rw [hat j hj'];simp [hj']
   have hblk:blk<w.heap.size:=(Array.getElem?_eq_some_iff.1 hb).1
   have hc:=Any.slices_Sort_int Ly blk base cap zs w hH hblk hsz
   have e0:base+0 * 1=base:=by omega
   rw [e0]
   refine hc.mono ?_
   rintro e w' ⟨rfl,n,os,rfl⟩
   have hnew:∀ k,k<w.heap.size→k≠blk→(grow (putRow (Value.int .i64) (Sort.ahead w n) blk base (zs.mergeSort fun x y=>decide (x≤y)).toArray) os).heap[k]? = w.heap[k]?:=by
    intro k hk hne
    rw [heap_grow_old _ _ (by simpa using hk)]
    simp [putRow,mapBlock,Sort.ahead,Array.getElem?_modify,Ne.symm hne]
   have hblk':(grow (putRow (Value.int .i64) (Sort.ahead w n) blk base (zs.mergeSort fun x y=>decide (x≤y)).toArray) os).heap[blk]? = some (.cells (putCells (Value.int .i64) base (yH zs).toArray c) ty (0,0)):=by
    rw [heap_grow_old _ _ (by simpa using hblk)]
    simp [putRow,mapBlock,Sort.ahead,Array.getElem?_modify,hb,onCells,yH]
   generalize hw:(grow (putRow (Value.int .i64) (Sort.ahead w n) blk base (zs.mergeSort fun x y=>decide (x≤y)).toArray) os)=w' at hnew hblk'
   have hsize:w.heap.size≤w'.heap.size:=by rw [← hw];simp [grow,putRow,mapBlock,Sort.ahead]
   have hos:w'.os=w.os:=by rw [← hw];rfl
   have hout:w'.output=w.output:=by rw [← hw];rfl
   have own:∀ b,yJ K [.arr 1 es] b↔b=blk:=by
    intro b
    constructor
    · rintro ⟨i,o,base',h1,h2,h3⟩
      cases i with
      | zero=>rw [hγ] at h3;cases h3;rfl
      | succ i=>simp at h1
    · rintro rfl;exact ⟨0,_,base,rfl,trivial,hγ⟩
   have hnI:¬ K.I blk:=hh.disj blk ⟨0,_,base,rfl,trivial,hγ⟩
   have cells:∀ (b:Nat) c1 ty fz,w.heap[b]? = some (.cells c1 ty fz)→∃ c' fz',w'.heap[b]? = some (.cells c' ty fz')∧c'.size=c1.size:=by
    intro b c1 ty1 fz h1
    by_cases hbb:b=blk
    · subst hbb;rw [hb] at h1;cases h1;exact ⟨_,_,hblk',putCells_len _ _ _⟩
    · exact ⟨c1,fz,by rw [hnew b (Array.getElem?_eq_some_iff.1 h1).1 hbb];exact h1,rfl⟩
   refine ⟨_,_,_,K,rfl,⟨rfl,rfl⟩,⟨?_,?_,?_,?_,?_⟩,tupr _ _ _,⟨fun _ _=>rfl,by simp,fun _ h=>h,fun _ h=>.inl h,?_,?_,hsize,cells,?_,hos,hout⟩⟩
   · intro b o hbo
     cases b with
     | succ b=>simp at hbo
     | zero =>
      simp at hbo;subst hbo
      rw [hγ]
      refine .arr blk base 1 _ _ ty hblk' (fun i e he=>?_) (fun i e he=>?_)
      · rw [List.getElem?_map] at he
        obtain ⟨z,_,rfl⟩:=Option.map_eq_some_iff.1 he
        rfl
      · rw [List.getElem?_map] at he
        obtain ⟨z,hz,rfl⟩:=Option.map_eq_some_iff.1 he
        intro j x hx
        cases j with
        | succ j=>simp [AV.cells] at hx
        | zero =>
         simp [AV.cells] at hx;subst hx
         have hi:i<(yH zs).length:=(List.getElem?_eq_some_iff.1 hz).1
         refine ⟨.int .i64 z,?_,.val _ (by intro cs;simp)⟩
         have hcs:base+i<c.size:=by
          have:=hat i (by omega)
          exact (Array.getElem?_eq_some_iff.1 this).1
         have:=putCells_at (off:=base) (c:=c) (ts:=yH zs) hi hcs
         have hz':(yH zs)[i]=z:=(List.getElem?_eq_some_iff.1 hz).2
         rw [hz'] at this
         simpa using this
   · intro b b' o o' blk base base' h1 h2
     cases b with
     | succ b=>simp at h1
     | zero=>cases b' with
      | succ b=>simp at h2
      | zero=>intros;rfl
   · rintro b ⟨i,o,base',h1,h2,h3⟩ hi
     cases i with
     | zero=>rw [hγ] at h3;cases h3;exact hnI hi
     | succ i=>simp at h1
   · intro b hi;exact Nat.lt_of_lt_of_le (hh.low b hi) hsize
   · intro g
     refine VRep.mono (K:=K) (K':=K) (fun _ _=>rfl) (Nat.le_refl _) (fun _ h=>h) (fun b hi o=>?_) cells (hh.glob g)
     have hne:b≠blk:=by rintro rfl;exact hnI hi
     unfold World.cell?
     rw [hnew b (hh.low b hi) hne]
   · rintro b ⟨i,o,base',h1,h2,h3⟩
     cases i with
     | zero=>left;rw [← hes];exact ⟨0,_,base',rfl,trivial,h3⟩
     | succ i=>simp at h1
   · intro b hb1 hno
     refine hnew b hb1 ?_
     rintro rfl
     exact hno (by rw [← hes];exact ⟨0,_,base,rfl,trivial,hγ⟩)
   · intro b r hr
     by_cases hbb:b=blk
     · subst hbb;rw [hb] at hr;cases hr
     · exact ⟨r,by rw [hnew b (Array.getElem?_eq_some_iff.1 hr).1 hbb];exact hr⟩
end Go.Am
end
section
namespace Go.Am
open Go.Shelf Go.Sort Go.Proofs
theorem vW (zs:List Int):(Lib.compact zs).length≤zs.length:=by
 unfold Lib.compact Lib.compactUpTo
 rw [List.length_map]
 refine Nat.le_trans (List.length_filter_le _ _) ?_
 simp
def x5 (zs:List Int):List Int:=Lib.compact zs++List.replicate (zs.length - (Lib.compact zs).length) 0
theorem compI_len (zs:List Int):(x5 zs).length=zs.length:=by
 have:=vW zs
 simp [x5];omega
theorem comp_acall {E:Env} {ρ:Ren} (Ly:Lays2.n20 E.P ρ) (zs:List Int) (hsz:zs.length≤9223372036854775807) :
 ACall E (ρ.f 20) [.sl 0 1 0 zs.length] [.arr 1 (zs.map fun z=>.val (.int .i64 z))] fun v H'=>v=.sl 0 1 0 (Lib.compact zs).length∧H'=[.arr 1 ((x5 zs).map fun z=>.val (.int .i64 z))]:=by
 intro K w ys hh hv
 have hlen:(x5 zs).length=zs.length:=compI_len zs
 obtain ⟨y,rfl⟩:∃ y,ys=[y]:=by
  match ys,hv.1 with
  | [y],_=>exact ⟨y,rfl⟩
 have v0:=hv.2 0 _ y rfl rfl
 have tupr:∀ (K:Ctx) (M:Nat) (w:World),VRep K M w (.tup []) (.tuple #[]):=fun K M w=>.tup [] [] rfl fun i c y h=>by simp at h
 have nil:zs=[]→∀ (p:Option Addr),y=.slice p 0 0→Calls E.P (ρ.f 20) [y].toArray w fun e w'=>∃ v y H' K',e=.returned y∧(v=.sl 0 1 0 (Lib.compact zs).length∧H'=[.arr 1 ((x5 zs).map fun z=>.val (.int .i64 z))])∧HRep E K' w' H'∧VRep K' H'.length w' v y∧Ev 1 K [.arr 1 (zs.map fun z=>.val (.int .i64 z))] w K' H' w':=by
  rintro rfl p rfl
  refine (Any.slices_Compact_int_empty Ly p 0 w).mono ?_
  rintro e w' ⟨rfl,rfl⟩
  refine ⟨_,_,_,K,rfl,⟨rfl,rfl⟩,hh,?_,Ev.refl _ _ _ _ (Nat.le_refl _)⟩
  cases p with
  | none=>exact .slnil 0 1 0 (by simp)
  | some a=>exact .sl0 0 1 0 a (by simp)
 generalize hz:zs.length=m at v0
 cases v0 with
 | slnil _ _ _ hM=>exact nil (List.length_eq_zero_iff.1 hz) none rfl
 | sl0 _ _ _ a hM=>exact nil (List.length_eq_zero_iff.1 hz) (some a) rfl
 | sl _ _ _ _ cap blk base hM hγ hle hs =>
  subst hz
  by_cases h0:zs=[]
  · subst h0
    refine (Any.slices_Compact_int_empty Ly _ cap w).mono ?_
    rintro e w' ⟨rfl,rfl⟩
    exact ⟨_,_,_,K,rfl,⟨rfl,rfl⟩,hh,VRep.sl 0 1 0 0 cap blk base hM hγ hle hs,Ev.refl _ _ _ _ (Nat.le_refl _)⟩
  have ho:=hh.obj 0 _ rfl
  rw [hγ] at ho
  generalize hes:(zs.map fun z=>AV.val (.int .i64 z))=es at ho
  cases ho with
  | arr _ _ _ _ c ty hb hk hl =>
   have hel:es.length=zs.length:=by rw [← hes];simp
   have hat:∀ j (hj:j<zs.length),c[base+j]? = some (.int .i64 zs[j]):=by
    intro j hj
    have he:es[j]? = some (.val (.int .i64 zs[j])):=by rw [← hes];simp [hj]
    obtain ⟨y,h1,h2⟩:=hl j _ he 0 _ rfl
    cases h2
    simpa using h1
   have hH:Go.Sort.Holds (Value.int .i64) w blk base zs.toArray:=by
    intro j hj
    have hj':j<zs.length:=by simpa using hj
    refine ⟨?_,by simp [World.frozen?,hb]⟩
    simp only [World.cell?,hb,Option.isSome_none,Bool.false_eq_true,if_false]
    rw [hat j hj'];simp [hj']
   have hblk:blk<w.heap.size:=(Array.getElem?_eq_some_iff.1 hb).1
   have hc:=Any.slices_Compact_int Ly blk base cap zs w hH hsz hle
   have e0:base+0 * 1=base:=by omega
   rw [e0]
   refine hc.mono ?_
   rintro e w' ⟨rfl,n,rfl⟩
   have hnew:∀ k,k<w.heap.size→k≠blk→(putRow (Value.int .i64) (Sort.ahead w n) blk base (Lib.compact zs++List.replicate (zs.length - (Lib.compact zs).length) 0).toArray).heap[k]? = w.heap[k]?:=by
    intro k hk hne
    simp [putRow,mapBlock,Sort.ahead,Array.getElem?_modify,Ne.symm hne]
   have hblk':(putRow (Value.int .i64) (Sort.ahead w n) blk base (Lib.compact zs++List.replicate (zs.length - (Lib.compact zs).length) 0).toArray).heap[blk]? = some (.cells (putCells (Value.int .i64) base (x5 zs).toArray c) ty (0,0)):=by
    simp [putRow,mapBlock,Sort.ahead,Array.getElem?_modify,hb,onCells,x5]
   generalize hw:(putRow (Value.int .i64) (Sort.ahead w n) blk base (Lib.compact zs++List.replicate (zs.length - (Lib.compact zs).length) 0).toArray)=w' at hnew hblk'
   have hsize:w.heap.size≤w'.heap.size:=by rw [← hw];simp [putRow,mapBlock,Sort.ahead]
   have hos:w'.os=w.os:=by rw [← hw];rfl
   have hout:w'.output=w.output:=by rw [← hw];rfl
   have own:∀ b,yJ K [.arr 1 es] b↔b=blk:=by
    intro b
    constructor
    · rintro ⟨i,o,base',h1,h2,h3⟩
      cases i with
      | zero=>rw [hγ] at h3;cases h3;rfl
      | succ i=>simp at h1
    · rintro rfl;exact ⟨0,_,base,rfl,trivial,hγ⟩
   have hnI:¬ K.I blk:=hh.disj blk ⟨0,_,base,rfl,trivial,hγ⟩
   have cells:∀ (b:Nat) c1 ty fz,w.heap[b]? = some (.cells c1 ty fz)→∃ c' fz',w'.heap[b]? = some (.cells c' ty fz')∧c'.size=c1.size:=by
    intro b c1 ty1 fz h1
    by_cases hbb:b=blk
    · subst hbb;rw [hb] at h1;cases h1;exact ⟨_,_,hblk',putCells_len _ _ _⟩
    · exact ⟨c1,fz,by rw [hnew b (Array.getElem?_eq_some_iff.1 h1).1 hbb];exact h1,rfl⟩
   have hres:VRep K 1 w' (.sl 0 1 0 (Lib.compact zs).length) (.slice (some ⟨blk,base,none⟩) (Lib.compact zs).length cap):=by
    have h1:VRep K 1 w (.sl 0 1 0 (Lib.compact zs).length) (.slice (some ⟨blk,base+0 * 1,none⟩) (Lib.compact zs).length cap):=VRep.sl 0 1 0 _ cap blk base hM hγ (Nat.le_trans (vW zs) hle) hs
    rw [e0] at h1
    refine VRep.mono (K:=K) (K':=K) (fun _ _=>rfl) (Nat.le_refl _) (fun _ h=>h) (fun b hi o=>?_) cells h1
    have hne:b≠blk:=by rintro rfl;exact hnI hi
    unfold World.cell?
    rw [hnew b (hh.low b hi) hne]
   refine ⟨_,_,_,K,rfl,⟨rfl,rfl⟩,⟨?_,?_,?_,?_,?_⟩,hres,⟨fun _ _=>rfl,by simp,fun _ h=>h,fun _ h=>.inl h,?_,?_,hsize,cells,?_,hos,hout⟩⟩
   · intro b o hbo
     cases b with
     | succ b=>simp at hbo
     | zero =>
      simp at hbo;subst hbo
      rw [hγ]
      refine .arr blk base 1 _ _ ty hblk' (fun i e he=>?_) (fun i e he=>?_)
      · rw [List.getElem?_map] at he
        obtain ⟨z,_,rfl⟩:=Option.map_eq_some_iff.1 he
        rfl
      · rw [List.getElem?_map] at he
        obtain ⟨z,hz,rfl⟩:=Option.map_eq_some_iff.1 he
        intro j x hx
        cases j with
        | succ j=>simp [AV.cells] at hx
        | zero =>
         simp [AV.cells] at hx;subst hx
         have hi:i<(x5 zs).length:=(List.getElem?_eq_some_iff.1 hz).1
         refine ⟨.int .i64 z,?_,.val _ (by intro cs;simp)⟩
         have hcs:base+i<c.size:=by
          have:=hat i (by omega)
          exact (Array.getElem?_eq_some_iff.1 this).1
         have:=putCells_at (off:=base) (c:=c) (ts:=x5 zs) hi hcs
         have hz':(x5 zs)[i]=z:=(List.getElem?_eq_some_iff.1 hz).2
         rw [hz'] at this
         simpa using this
   · intro b b' o o' blk base base' h1 h2
     cases b with
     | succ b=>simp at h1
     | zero=>cases b' with
      | succ b=>simp at h2
      | zero=>intros;rfl
   · rintro b ⟨i,o,base',h1,h2,h3⟩ hi
     cases i with
     | zero=>rw [hγ] at h3;cases h3;exact hnI hi
     | succ i=>simp at h1
   · intro b hi;exact Nat.lt_of_lt_of_le (hh.low b hi) hsize
   · intro g
     refine VRep.mono (K:=K) (K':=K) (fun _ _=>rfl) (Nat.le_refl _) (fun _ h=>h) (fun b hi o=>?_) cells (hh.glob g)
     have hne:b≠blk:=by rintro rfl;exact hnI hi
     unfold World.cell?
     rw [hnew b (hh.low b hi) hne]
   · rintro b ⟨i,o,base',h1,h2,h3⟩
     cases i with
     | zero=>left;rw [← hes];exact ⟨0,_,base',rfl,trivial,h3⟩
     | succ i=>simp at h1
   · intro b hb1 hno
     refine hnew b hb1 ?_
     rintro rfl
     exact hno (by rw [← hes];exact ⟨0,_,base,rfl,trivial,hγ⟩)
   · intro b r hr
     by_cases hbb:b=blk
     · subst hbb;rw [hb] at hr;cases hr
     · exact ⟨r,by rw [hnew b (Array.getElem?_eq_some_iff.1 hr).1 hbb];exact hr⟩
end Go.Am
end
section
namespace Go.Proofs
open Go.Shelf Go.RowKit Go.Lib
section
variable {P:Program} {ρ:Ren}
set_option maxHeartbeats 2000000 in
set_option maxRecDepth 100000 in
theorem Any.stringslite_Cut1 (L:Lays.n220 P ρ) (s:ByteArray) (b:UInt8) (w:World) (hs:s.size<4294967281) :
 Calls P (ρ.f 220) #[.string s,.string ⟨#[b]⟩] w fun e w'=>e=.returned (.tuple #[.string ⟨(Lib.cut s.data.toList [b]).1.toArray⟩,.string ⟨(Lib.cut s.data.toList [b]).2.1.toArray⟩,.bool (Lib.cut s.data.toList [b]).2.2])∧∃ n,w'=w.drewN n:=by
 have hone:Lib.index s.data.toList [b]=Lib.indexByte s.data.toList b:=Lib.index_one _ _
 rcases Lib.indexB_cases s ⟨#[b]⟩ with hix | ⟨i,hix,hroom⟩
 · obtain ⟨e1,e2,e3⟩:=Lib.cutB_miss s ⟨#[b]⟩ hix
   have hz:Lib.cut s.data.toList [b]=Lib.cut s.data.toList (ByteArray.mk #[b]).data.toList:=rfl
   rw [hz,e1,e2,e3]
   have t3:=L.t3;have t4:=L.t4;have t9:=L.t9
   have a3:∀ w,(isAgg (ρ.t 3)).run P w=.ok false w:=run_isAgg_plain L.t3 rfl;have a4:∀ w,(isAgg (ρ.t 4)).run P w=.ok false w:=run_isAgg_plain L.t4 rfl;have a9:∀ w,(isAgg (ρ.t 9)).run P w=.ok false w:=run_isAgg_plain L.t9 rfl
   have e219:∀ args w,(callFunc (ρ.f 219) args).run P w=.ok (.enter (ρ.f 219) args) w:=enters_of L.f219 (by kernel_rfl) rfl
   have mixed:=L.mixed;have z3:=L.z3;have v3:=L.v3;have z4:=L.z4;have v4:=L.v4;have z9:=L.z9;have v9:=L.v9
   go_enter L.f220,Body.n220_ntmps ρ
   go_wp2_with (go_at_fn (ρ.f 219);refine (Any.stringslite_Index_one { L with } _ _ _).mono ?_;rintro e w' ⟨rfl,rfl⟩;rw [show Lib.indexByte s.data.toList b=_ from hone.symm.trans hix])
   go_ret3
   exact ⟨rfl,0,rfl⟩
 · obtain ⟨e1,e2,e3⟩:=Lib.cutB_hit s ⟨#[b]⟩ i hix
   have hz:Lib.cut s.data.toList [b]=Lib.cut s.data.toList (ByteArray.mk #[b]).data.toList:=rfl
   rw [hz,e1,e2,e3]
   have hsz:(ByteArray.mk #[b]).size=1:=rfl
   have c1:(0:Int)≤↑i:=by omega
   have c2:(↑i:Int)≤↑s.size:=by omega
   have c3:(0:Int)≤↑i + ↑(ByteArray.mk #[b]).size:=by omega
   have c4:(↑i + ↑(ByteArray.mk #[b]).size:Int)≤↑s.size:=by omega
   have t3:=L.t3;have t4:=L.t4;have t9:=L.t9
   have a3:∀ w,(isAgg (ρ.t 3)).run P w=.ok false w:=run_isAgg_plain L.t3 rfl;have a4:∀ w,(isAgg (ρ.t 4)).run P w=.ok false w:=run_isAgg_plain L.t4 rfl;have a9:∀ w,(isAgg (ρ.t 9)).run P w=.ok false w:=run_isAgg_plain L.t9 rfl
   have e219:∀ args w,(callFunc (ρ.f 219) args).run P w=.ok (.enter (ρ.f 219) args) w:=enters_of L.f219 (by kernel_rfl) rfl
   have mixed:=L.mixed;have z3:=L.z3;have v3:=L.v3;have z4:=L.z4;have v4:=L.v4;have z9:=L.z9;have v9:=L.v9
   go_enter L.f220,Body.n220_ntmps ρ
   go_wp2_with (go_at_fn (ρ.f 219);refine (Any.stringslite_Index_one { L with } _ _ _).mono ?_;rintro e w' ⟨rfl,rfl⟩;rw [show Lib.indexByte s.data.toList b=_ from hone.symm.trans hix])
   go_region_o
   go_wp2
   go_ret3
   exact ⟨rfl,1,rfl⟩
end
end Go.Proofs
namespace Go.Am
open Go.Proofs Go.Shelf
theorem HRep.drewN {E:Env} {K:Ctx} {w:World} {H:zz} (h:HRep E K w H) (n:Nat):HRep E K (w.drewN n) H∧Ev H.length K H w K H (w.drewN n):=by
 have hm:Mv K H.length w K H.length (w.drewN n):=⟨fun _ _=>rfl,Nat.le_refl _,fun _ h=>h,fun _ _ _=>rfl,fun b c ty fz h=>⟨c,fz,h,rfl⟩⟩
 refine ⟨⟨fun b o hb=>hm.orep (h.obj b o hb) (fun _ _ _ _=>rfl),h.inj,h.disj,h.low,fun g=>?_⟩,⟨fun _ _=>rfl,Nat.le_refl _,fun _ h=>h,fun _ h=>.inl h,fun _ h=>.inl h,fun _ _ _=>rfl,Nat.le_refl _,fun _ c _ fz h=>⟨c,fz,h,rfl⟩,fun _ r h=>⟨r,h⟩,rfl,rfl⟩⟩
 exact VRep.mono (K':=K) (fun b hb=>absurd hb (Nat.not_lt_zero _)) (Nat.le_refl _) (fun _ h=>h) hm.wc hm.cells (h.glob g)
theorem vals_rep {K:Ctx} {M:Nat} {w:World}:∀ {vs ys:List Value},(vs.map AV.val).length=ys.length→(∀ (i:Nat) c y,(vs.map AV.val)[i]? = some c→ys[i]? = some y→VRep K M w c y)→ys=vs
 | [],[],_,_=>rfl
 | [],_ :: _,h,_=>by simp at h
 | _ :: _,[],h,_=>by simp at h
 | v :: vs,y :: ys,h,hh=>by
  have h0:=hh 0 (.val v) y rfl rfl
  have e:y=v:=by cases h0;rfl
  rw [e,vals_rep (vs:=vs) (ys:=ys) (by simpa using h) fun i c y h1 h2=>hh (i+1) c y (by simpa using h1) (by simpa using h2)]
end Go.Am
end
section
namespace Go.Am
open Go.Proofs
def y5 (es:List (AV × AV)):Bool:=es.all fun p=>p.1.closed && p.2.closed
theorem closedM_sub {es:List (AV × AV)} (h:y5 es=true) (σ:Nat→Sub):(es.map fun p=>(p.1.sub σ,p.2.sub σ))=es:=by
 rw [y5,List.all_eq_true] at h
 conv=>rhs;rw [← List.map_id es]
 refine List.map_congr_left fun p hp=>?_
 have:=h p hp
 rw [Bool.and_eq_true] at this
 rw [zX _ _ _ (Nat.le_refl _) this.1,zX _ _ _ (Nat.le_refl _) this.2];rfl
theorem osrc_amap {H:zz} {M:Nat} {σ:Nat→Sub} {τ:Nat→Option Nat} {b' b:Nat} {es es':List (AV × AV)} (hH:H[b]? = some (.amap es)) (ht:τ b'=some b) (hs:σ b=.to b') (he:es=es') (hcl:y5 es'=true):tg H M σ τ b' (.amap es'):=by
 subst he
 exact .same b _ _ hH ht hs (congrArg AObj.amap (closedM_sub hcl σ))
end Go.Am
end
section
namespace Go.Am
open Go
section
variable {E:Env} {n N:Nat} {F:AFr} {H:zz}
theorem simT {tail:List AOper} {ops:List AOper} {B chain effs:List Nat} {V:List AV} {Hs:List zz} {Q:AFr→zz→Prop} (wf:WfD ops B) (hB:∀ i k,(B.getD i 0).testBit k=true→Anc ops k i) (hV:V.length=ops.length) (hHs:Hs.length=chain.length+1) (hnd:chain.Nodup) (hef:∀ i,effs.contains i=chain.contains i)
 (hD:∀ (i:Nat) o v,ops[i]? = some o→V[i]? = some v→DOp E B chain (wJ F ops V) Hs i o v) (hQ:∀ F' Hm,Hs[chain.length]? = some Hm→(∀ t,F'.get t=(wJ F ops V).get t)→AOps E n N tail F' Hm Q) :
 ∀ (l S:List Nat) (Fc:AFr) (j:Nat) (Hj:zz),Runs ops S l→tQ ops S→(∀ i∈S,∀ o v d,ops[i]? = some o→V[i]? = some v→o.dst=some d→Fc.get d=v)→(∀ t,(∀ (i:Nat) o,ops[i]? = some o→o.dst≠some t)→Fc.get t=F.get t) →
  Hs[j]? = some Hj→chain.drop j=l.filter (effs.contains ·)→(∀ e∈chain.take j,e∈S)→AOps E n N ((l.map fun i=>ops.getD i default)++tail) Fc Hj Q:=by
 have hfin:∀ (i:Nat) o v d,ops[i]? = some o→V[i]? = some v→o.dst=some d→(wJ F ops V).get d=v:=fun i o v d h1 h2 h3=>finF_some ops V F i o v d h1 h2 h3 fun k o' hk hd=>wf.dst i k o o' d h1 hk h3 hd
 have getV:∀ (i:Nat) o,ops[i]? = some o→∃ v,V[i]? = some v:=fun i o h=>⟨_,List.getElem?_eq_getElem (by have:=(List.getElem?_eq_some_iff.1 h).1;omega)⟩
 have look:∀ (S:List Nat) (Fc:AFr),tQ ops S→(∀ i∈S,∀ o v d,ops[i]? = some o→V[i]? = some v→o.dst=some d→Fc.get d=v)→(∀ t,(∀ (i:Nat) o,ops[i]? = some o→o.dst≠some t)→Fc.get t=F.get t) →
  ∀ (i:Nat) (o:AOper),ops[i]? = some o→(∀ k∈o.after,k∈S)→∀ t∈o.looks,Fc.get t=(wJ F ops V).get t:=by
  intro S Fc hS ha hb i o hi haft t ht
  rcases Classical.em (∃ (k:Nat) (o':AOper),ops[k]? = some o'∧o'.dst=some t) with ⟨k,o',hk,hd⟩ | hno
  · obtain ⟨v,hv⟩:=getV k o' hk
    have hkS:=(hB i k (wf.look i k o o' t hi hk ht hd)).mem hS ⟨o,hi,haft⟩
    rw [hfin k o' v t hk hv hd];exact ha k hkS o' v t hk hv hd
  · have hno':∀ (i:Nat) o,ops[i]? = some o→o.dst≠some t:=fun k o' hk hd=>hno ⟨k,o',hk,hd⟩
    rw [hb t hno',wX ops V F t hno']
 intro l
 induction l with
 | nil =>
  intro S Fc j Hj hr hS ha hb hj hch htk
  have hjle:j=chain.length:=by
   have h1:chain.length≤j:=by simpa using List.drop_eq_nil_iff.1 hch
   have h2:=(List.getElem?_eq_some_iff.1 hj).1
   omega
  subst hjle
  rw [List.map_nil,List.nil_append]
  refine hQ Fc Hj hj fun t=>?_
  rcases Classical.em (∃ (k:Nat) (o':AOper),ops[k]? = some o'∧o'.dst=some t) with ⟨k,o',hk,hd⟩ | hno
  · obtain ⟨v,hv⟩:=getV k o' hk
    rw [hfin k o' v t hk hv hd];exact ha k (hr k (List.getElem?_eq_some_iff.1 hk).1) o' v t hk hv hd
  · have hno':∀ (i:Nat) o,ops[i]? = some o→o.dst≠some t:=fun k o' hk hd=>hno ⟨k,o',hk,hd⟩
    rw [hb t hno',wX ops V F t hno']
 | cons i l ih =>
  intro S Fc j Hj hr hS ha hb hj hch htk
  have hnot:=hr.notin
  obtain ⟨h1,⟨o,ho,haft⟩,h3⟩:=hr
  obtain ⟨v,hv⟩:=getV i o ho
  have hget:ops.getD i default=o:=by simp [List.getD_eq_getElem?_getD,ho]
  rw [List.map_cons,hget,List.cons_append]
  have hS':tQ ops (i :: S):=by
   intro x hx o' ho' k hk
   rcases List.mem_cons.1 hx with rfl | hx
   · rw [ho] at ho';cases ho';exact List.mem_cons_of_mem _ (haft k hk)
   · exact List.mem_cons_of_mem _ (hS x hx o' ho' k hk)
  have hlk:=look S Fc hS ha hb i o ho haft
  have hwant:=yL hlk
  have hev:=xC (G:=E.G) hlk
  have hop:∀ H,zN E.G o.op Fc H=zN E.G o.op (wJ F ops V) H:=fun H=>y6 hev
  -- the frame behind the operation
  have ha':∀ k∈i :: S,∀ o' v' d,ops[k]? = some o'→V[k]? = some v'→o'.dst=some d→(Fc.set o.dst v).get d=v':=by
   intro k hk o' v' d hk1 hk2 hk3
   rw [AFr.get_set]
   by_cases hd:o.dst=some d
   · have:=wf.dst i k o o' d ho hk1 hd hk3
     subst this
     rw [hv] at hk2;cases hk2;rw [if_pos hd]
   · rw [if_neg hd]
     rcases List.mem_cons.1 hk with rfl | hk
     · rw [ho] at hk1;cases hk1;exact absurd hk3 hd
     · exact ha k hk o' v' d hk1 hk2 hk3
  have hb':∀ t,(∀ (i:Nat) o,ops[i]? = some o→o.dst≠some t)→(Fc.set o.dst v).get t=F.get t:=by
   intro t ht;rw [AFr.get_set,if_neg (ht i o ho)];exact hb t ht
  have hpos:chain.contains i=false→tx B chain i j=true:=by
   intro hc
   simp only [tx,Bool.and_eq_true,List.all_eq_true,Bool.not_eq_true']
   refine ⟨fun e he=>?_,fun e he=>?_⟩
   · cases hb2:(B.getD e 0).testBit i with
     | false=>rfl
     | true =>
      have heS:=htk e he
      have hanc:=hB e i hb2
      obtain ⟨oe,hoe⟩:∃ oe,ops[e]? = some oe:=by
       cases hanc with
       | one h2 _=>exact ⟨_,h2⟩
       | more h2 _ _=>exact ⟨_,h2⟩
      exact absurd (hanc.mem hS ⟨oe,hoe,hS e heS oe hoe⟩) h1
   · cases hb2:(B.getD i 0).testBit e with
     | false=>rfl
     | true =>
      have heS:=(hB i e hb2).mem hS ⟨o,ho,haft⟩
      rw [hch] at he
      exact absurd heS (hnot e (List.mem_filter.1 he).1)
  have quiet:chain.contains i=false→AOps E n N ((l.map fun i=>ops.getD i default)++tail) (Fc.set o.dst v) Hj Q:=by
   intro hc
   refine ih (i :: S) _ j Hj h3 hS' ha' hb' hj ?_ (fun e he=>List.mem_cons_of_mem _ (htk e he))
   rw [hch,List.filter_cons_of_neg (by rw [hef,hc];simp)]
  have loud:∀ j' H',chain[j']? = some i→Hs[j'+1]? = some H'→j'=j∧AOps E n N ((l.map fun i=>ops.getD i default)++tail) (Fc.set o.dst v) H' Q:=by
   intro j' H' hj' hH'
   have hc:chain.contains i=true:=by simpa using List.mem_of_getElem? hj'
   have hd:chain.drop j=i :: l.filter (effs.contains ·):=by rw [hch,List.filter_cons_of_pos (by rw [hef,hc])]
   have hij:chain[j]? = some i:=by
    have:(chain.drop j)[0]? = some i:=by rw [hd];rfl
    simpa using this
   have hjj:j'=j:=by
    obtain ⟨a1,a2⟩:=List.getElem?_eq_some_iff.1 hj'
    obtain ⟨b1,b2⟩:=List.getElem?_eq_some_iff.1 hij
    exact (List.getElem_inj hnd).1 (a2.trans b2.symm)
   subst hjj
   refine ⟨rfl,ih (i :: S) _ (j'+1) H' h3 hS' ha' hb' hH' ?_ fun e he=>?_⟩
   · have:=congrArg (List.drop 1) hd
     rw [List.drop_drop] at this
     simpa using this
   · rw [List.take_add_one,hij] at he
     rcases List.mem_append.1 he with he | he
     · exact List.mem_cons_of_mem _ (htk e he)
     · simp at he;subst he;exact List.mem_cons_self
  cases hD i o v ho hv with
  | skip hg hv0 hc=>exact aops_skipG (looks_skip hlk hg) hv0 (quiet hc)
  | free hg h hc=>obtain ⟨c,e1,e2⟩:=h Hj;exact xm (by rw [hwant];exact hg) (by rw [hop];exact e1) e2 (quiet hc)
  | look hg h hc=>obtain ⟨c,e1,e2⟩:=h j Hj hj (hpos hc);exact xm (by rw [hwant];exact hg) (by rw [hop];exact e1) e2 (quiet hc)
  | call f xs args hg ho2 harg hen h hc =>
   refine xL (by rw [hwant];exact hg) ho2 ?_ hen (h j Hj hj (hpos hc)) (by rintro v' H1 ⟨rfl,rfl⟩;exact quiet hc)
   rw [← harg];exact List.map_congr_left fun x hx=>hev x (by rw [ho2];exact hx)
  | bslf kk xs es hg ho2 harg hf hv0 hc =>
   refine aops_bslf (es:=es) (by rw [hwant];exact hg) ho2 ?_ hf (by rw [← hv0];exact quiet hc)
   rw [← harg];exact List.map_congr_left fun x hx=>hev x (by rw [ho2];exact hx)
  | eff j' H1 H2 c hg hj' e1 e2 h hc =>
   obtain ⟨rfl,hk⟩:=loud j' H2 hj' e2
   rw [hj] at e1;cases e1
   exact xm (by rw [hwant];exact hg) (by rw [hop];exact h) hc hk
  | ecall j' H1 H2 f xs args hg hj' e1 e2 ho2 harg hen h =>
   obtain ⟨rfl,hk⟩:=loud j' H2 hj' e2
   rw [hj] at e1;cases e1
   refine xL (by rw [hwant];exact hg) ho2 ?_ hen h (by rintro v' H1 ⟨rfl,rfl⟩;exact hk)
   rw [← harg];exact List.map_congr_left fun x hx=>hev x (by rw [ho2];exact hx)
theorem awp_runs {ops:List AOper} {Q:zL→AFr→zz→Prop} (hm:E.P.follows .mixedOrders=true) (haft:∀ (i:Nat) (o:AOper),ops[i]? = some o→∀ k∈o.after,k<i)
 (h:∀ l,Runs ops [] l→AOps E n N (l.map fun i=>ops.getD i default) F H (fun F' H'=>Q .normal F' H')):AWP E n N (.draw ops) F H Q:=by
 refine xx fun c hc hns K w tmps T rs k cs h1 h2 h3 h4=>?_
 cases c with
 | region id os d =>
  simp only [yj] at hc
  split at hc
  · rename_i hd
    subst hd
    simp only [ACode.draw.injEq] at hc
    let t:=w.tape w.drawn (.order T.fn id)
    have hlen:ops.length=os.size:=by rw [← hc];simp
    have hruns:Runs ops [] (Region.schedule (E.P.follows .mixedOrders) os t):=by
     rw [hm]
     simp only [Region.schedule,Bool.true_or,if_true,Region.linearise]
     refine go_runs hc.symm haft os.size t _ [] (by simp) (fun i hi=>by simp [hi]) (by have:=List.length_filter_le (fun i=>!([]:List Nat).contains i) (List.range os.size);simpa using this)
    generalize hsch:Region.schedule (E.P.follows .mixedOrders) os t=l at hruns
    have key:=h l hruns
    have hlm:l.map (fun i=>(os[i]?).map (zQ E.P n os))=(l.map fun i=>ops.getD i default).map some:=by
     rw [List.map_map]
     refine List.map_congr_left fun i hi=>?_
     have hi':i<ops.length:=by
      have:∀ (l S:List Nat),Runs ops S l→∀ e∈l,e<ops.length:=by
       intro l
       induction l with
       | nil=>intro S _ e he;cases he
       | cons x l ih =>
        intro S hr e he
        rcases List.mem_cons.1 he with rfl | he
        · obtain ⟨o,ho,_⟩:=hr.2.1;exact (List.getElem?_eq_some_iff.1 ho).1
        · exact ih _ hr.2.2 e he
      exact this l [] hruns i hi
     have:ops[i]? = (os[i]?).map (zQ E.P n os):=by rw [← hc];simp
     rw [← this]
     simp [List.getD_eq_getElem?_getD,hi']
    obtain ⟨g1,g2⟩:=h1.drew
    obtain ⟨F1,H1,K1,w1,t1,q,a1,a2,a3,a4⟩:=key os l hlm K w.drew tmps T (rs.map xp) k cs g1 ((Ev.mv h1 g2).frep h2) h3
    have evA:=(g2.mono h3).trans a3
    refine ⟨.normal,F1,H1,K1,w1,t1,[],k,q,a1,a2,evA,h4.ev evA,(fun r hr=>by cases hr),.normal,.head st_region_draw ?_⟩
    rw [hsch]
    exact a4.trans (.one st_region_end)
  · cases hc
 | rangeFunc f ps a b=>simp only [yj] at hc;split at hc<;>cases hc
 | scope a=>exact absurd rfl (hns a)
 | _=>cases hc
theorem runs_last {ops1:List AOper} {o:AOper} (ha:∀ k,k<ops1.length→k∈o.after):∀ (l S:List Nat),Runs (ops1++[o]) S l→ops1.length∉S→∃ l1,l=l1++[ops1.length]∧Runs ops1 S l1∧∀ x∈l1,x<ops1.length
 | [],S,h,hm=>absurd (h ops1.length (by simp)) hm
 | i :: l,S,h,hm=>by
  obtain ⟨h1,⟨oi,h2,h3⟩,h4⟩:=h
  have hi:i<ops1.length+1:=by have:=(List.getElem?_eq_some_iff.1 h2).1;simpa using this
  by_cases he:i=ops1.length
  · subst he
    have hoi:oi=o:=by simp at h2;exact h2.symm
    subst hoi
    refine ⟨[],?_,fun k hk=>h3 k (ha k hk),by simp⟩
    cases l with
    | nil=>rfl
    | cons x l =>
     obtain ⟨g1,⟨ox,g2,_⟩,_⟩:=h4
     have hx:x<ops1.length+1:=by have:=(List.getElem?_eq_some_iff.1 g2).1;simpa using this
     exfalso
     apply g1
     by_cases hxe:x=ops1.length
     · simp [hxe]
     · exact List.mem_cons_of_mem _ (h3 x (ha x (by omega)))
  · obtain ⟨l1,rfl,g2,g3⟩:=runs_last ha l (i :: S) h4 (by simp only [List.mem_cons,not_or];exact ⟨fun h=>he h.symm,hm⟩)
    refine ⟨i :: l1,rfl,⟨h1,⟨oi,?_,h3⟩,g2⟩,fun x hx=>?_⟩
    · rwa [List.getElem?_append_left (by omega)] at h2
    · rcases List.mem_cons.1 hx with rfl | hx
      · omega
      · exact g3 x hx
theorem tr_drawL {Q:zL→AFr→zz→Prop} {k:List KI} {ops ops1:List AOper} {o:AOper} {B:List Nat} (hm:E.P.follows .mixedOrders=true) (hops:ops=ops1++[o]) (hl:(List.range ops1.length).all (fun i=>o.after.contains i)=true) (hal:o.after.all (Nat.blt · ops1.length)=true) (hB0:vR ops1 []=B) (hwf:vI ops1 B=true)
 (h:TR E ops1 F H (fun ks Hs F' H'=>xv B (zM 0 ks).length (zM 0 ks)=[zM 0 ks]∧za B (zM 0 ks) (H :: Hs) 0 ks∧Holds E n N Q (.ops [o]) k F' H')):Holds E n N Q (.code (.draw ops)) k F H:=by
 subst hops hB0
 obtain ⟨V,ks,Hs,F',H',ht,h1,h2,h3⟩:=h
 have wf:=wfDraw_spec hwf
 have hB:∀ i k,((vR ops1 []).getD i 0).testBit k=true→Anc ops1 k i:=by
  have:=v6 ops1 [] [] rfl (fun i k hk=>by simp at hk)
  simpa using this
 obtain ⟨m1,m2,m3⟩:=ht.kinds3
 have ha:∀ k,k<ops1.length→k∈o.after:=fun k hk=>by
  have:=List.all_eq_true.1 hl k (List.mem_range.2 hk)
  simpa using this
 have hltP:∀ e∈zM 0 ks,e<ops1.length:=fun x hx=>by have:=vE hx;omega
 refine awp_runs hm (fun i oi hi k hk=>?_) fun l hr=>?_
 · by_cases he:i<ops1.length
   · rw [List.getElem?_append_left he] at hi
     exact wf.aft i oi hi k hk
   · have hi2:i<ops1.length+1:=by have:=(List.getElem?_eq_some_iff.1 hi).1;simpa using this
     have:i=ops1.length:=by omega
     subst this
     have hoi:oi=o:=by simp at hi;exact hi.symm
     subst hoi
     exact Nat.le_of_ble_eq_true (List.all_eq_true.1 hal k hk)
 obtain ⟨l1,rfl,hr1,hlt⟩:=runs_last ha l [] hr (by simp)
 have hmap:((l1++[ops1.length]).map fun i=>(ops1++[o]).getD i default)=(l1.map fun i=>ops1.getD i default)++[o]:=by
  rw [List.map_append]
  congr 1
  · refine List.map_congr_left fun x hx=>?_
    have:=hlt x hx
    simp [List.getD_eq_getElem?_getD,List.getElem?_append_left this]
  · simp [List.getD_eq_getElem?_getD]
 rw [hmap]
 have hch:=chains_mem (B:=vR ops1 []) hB (zM 0 ks) hltP _ [] (zM 0 ks).length (fun i hi=>by cases hi) hr1 (List.length_filter_le _ _)
 have hself:((zM 0 ks).filter fun e=>!([]:List Nat).contains e)=zM 0 ks:=by simp
 rw [hself,h1,List.mem_singleton] at hch
 have hall:∀ e,e<ops1.length→e∈l1:=fun e he=>by
  rcases Runs.mem_all hr1 e he with h | h
  · cases h
  · exact h
 have hef:∀ i,(zM 0 ks).contains i=(zM 0 ks).contains i:=fun _=>rfl
 refine simT (E:=E) (n:=n) (N:=N) (F:=F) (tail:=[o]) (V:=V) (Hs:=H :: Hs) (effs:=zM 0 ks) (chain:=zM 0 ks) wf hB ht.len.1 (by simp [m2 0]) (wo _ _) hef (fun i oi v ho hv=>?_) (fun Fx Hm hHm hg=>?_) l1 [] F 0 H hr1 (fun i hi=>by cases hi) (fun i hi=>by cases hi) (fun t _=>rfl) rfl (by simpa using hch.symm) (fun e he=>by simp at he)
 · rw [← ht.len.2]
   have:=ht.dop (B:=vR ops1 []) 0 [] [] rfl (fun x hx=>by cases hx) h2 (fun i oi ho t ht k o' hik hk hd=>by
    have:=(hB i k (wf.look i k oi o' t ho hk ht hd)).lt wf
    omega) i oi v ho hv
   simpa using this
 · have e:Hm=H':=by
    rw [← m2 0] at hHm
    rw [hHm] at m3
    exact Option.some.inj m3
   subst e
   rw [← ht.len.2] at hg
   exact AOps.weak (fun t=>.inl (hg t).symm) h3
theorem uj {Q:zL→AFr→zz→Prop} {k:List KI} {ops ops1:List AOper} {o:AOper} {B:List Nat} (hm:E.P.follows .mixedOrders=true) (h1:ops.dropLast=ops1) (h2:ops.getLast? = some o) (hl:(List.range ops1.length).all (fun i=>o.after.contains i)=true) (hal:o.after.all (Nat.blt · ops1.length)=true) (hB0:vR ops1 []=B) (hwf:vI ops1 B=true)
 (h:TR E ops1 F H (fun ks Hs F' H'=>xv B (zM 0 ks).length (zM 0 ks)=[zM 0 ks]∧za B (zM 0 ks) (H :: Hs) 0 ks∧Holds E n N Q (.ops [o]) k F' H')):Holds E n N Q (.code (.draw ops)) k F H:=by
 refine tr_drawL hm ?_ hl hal hB0 hwf h
 obtain ⟨l,rfl⟩:=List.getLast?_eq_some_iff.1 h2
 rw [← h1,List.dropLast_concat]
theorem on_codeJ {Q:zL→AFr→zz→Prop} {k:List KI} {a:ACode} (F0:AFr) (H0:zz) (h1:Holds E n N (fun e F' H'=>e=.normal∧Ent E n N F' H' F0 H0) (.code a) [] F H)
 (tail:Holds E n N Q (.out .normal) k F0 H0):Holds E n N Q (.code a) k F H:=by
 refine AWP.entEnd (AWP.mono h1 ?_)
 rintro e F' H' ⟨rfl,he⟩
 exact ⟨F0,H0,he,tail⟩
end
end Go.Am
end
section
namespace Go.Am
section
variable {E:Env} {n N:Nat} {Q:zL→AFr→zz→Prop}
theorem goA (g:Nat) {X:y4} {cur:Cur} {k:List KI} {F:AFr} {H:zz} {c:Cd} {cur':Cur} {k':List KI} {F':AFr} {H':zz} (h:Holds E n N Q cur' k' F' H') (hXs:X=std:=by exact hX) (hm:E.P.follows .mixedOrders=true:=by exact rfl)
 (he:exec X E.G 1000 g cur k F H=(c,cur',k',F',H'):=by conv=>lhs;cbv) (hc:c.ok:=by first | exact trivial | (simp only [Cd.ok,ee];and_intros<;>first | omega | rfl | (simp<;>omega))):Holds E n N Q cur k F H :=
 go hm hXs g he hc h
end
theorem tgA {E:Env} {X:y4} {l:List AOper} {F:AFr} {H:zz} {K:List Kd→List zz→AFr→zz→Prop} {c:Cd} {rest:List AOper} {F':AFr} {H':zz} {ks:List Kd} {Hs:List zz}
 (h:TR E rest F' H' (fun k2 H2=>K (ks++k2) (Hs++H2))) (hXs:X=std:=by exact hX) (he:uN X E.G 1000 l F H=(c,rest,F',H',ks,Hs):=by conv=>lhs;cbv) (hc:c.ok:=by first | exact trivial | (simp only [Cd.ok,ee];and_intros<;>first | omega | rfl | (simp<;>omega))):TR E l F H K:=tr_go hXs he hc h
section
variable {E:Env} {n N:Nat} {Q:zL→AFr→zz→Prop} {k:List KI} {F:AFr} {H:zz}
theorem nsB {X:y4} (hXs:X=std) {l rest:List AOper} {c:Cd} {F':AFr} (he:runT2 X E.G l F H=some (c,rest,F')) (h:Holds E n N Q (.ops rest) k F' H) (hc:c.ok:=by first | exact trivial | (simp only [Cd.ok,ee];and_intros<;>first | omega | rfl | (simp<;>omega))):Holds E n N Q (.ops l) k F H:=ns_go hXs he hc h
end
theorem zr {p:Prop} (h:∀ (iLt:Int→Int→Bool) (iLe:Int→Int→Bool) (iEq:Int→Int→Bool) (iNe:Int→Int→Bool) (iAdd:IntKind→Int→Int→Int) (iSub:IntKind→Int→Int→Int) (iMul:IntKind→Int→Int→Int) (iQuo:IntKind→Int→Int→Int) (iRem:Int→Int→Int) (iShr:IntKind→Int→Int→Int) (iNeg:IntKind→Int→Int) (iCvt:IntKind→Int→Int) (iMax:Int→Int→Int) (iMin:Int→Int→Int) (bNot:Bool→Bool) (bEq:Bool→Bool→Bool) (bNe:Bool→Bool→Bool) (bAnd:Bool→Bool→Bool) (bOr:Bool→Bool→Bool) (sEq:ByteArray→ByteArray→Bool) (sNe:ByteArray→ByteArray→Bool) (sLen:ByteArray→Int) (sCat:ByteArray→ByteArray→ByteArray) (sCut:ByteArray→Int→Int→ByteArray) (sAt:ByteArray→Int→Int) (lenA:List AV→Int) (lenN:List AV→Nat) (iOf:Nat→Int) (natOf:Int→Nat) (atA:List AV→Int→AV) (atN:List AV→Nat→AV) (cutA:List AV→Int→Int→List AV) (partA:List AV→Nat→Nat→List AV) (dropA:List AV→Nat→List AV) (catA:List AV→List AV→List AV) (setA:List AV→Nat→AV→List AV) (repA:Int→AV→List AV) (putA:List AV→Nat→Nat→List AV→List AV) (idxN:Nat→Int→Nat) (addN:Nat→Nat→Nat) (subN:Nat→Int→Nat) (minN:Nat→Nat→Nat) (lenCut:Int→Int→Nat) (rowA:List AV→Int→Nat→List AV) (mOk:Bool→List (AV × AV)→AV→Bool) (mHas:Bool→List (AV × AV)→AV→Bool) (mGet:Bool→List (AV × AV)→AV→AV→AV) (mPut:Bool→List (AV × AV)→AV→AV→List (AV × AV)) (bytA:ByteArray→List AV) (encR:Int→ByteArray),∀ (hX:(⟨iLt,iLe,iEq,iNe,iAdd,iSub,iMul,iQuo,iRem,iShr,iNeg,iCvt,iMax,iMin,bNot,bEq,bNe,bAnd,bOr,sEq,sNe,sLen,sCat,sCut,sAt,lenA,lenN,iOf,natOf,atA,atN,cutA,partA,dropA,catA,setA,repA,putA,idxN,addN,subN,minN,lenCut,rowA,mOk,mHas,mGet,mPut,bytA,encR⟩:y4)=std) (e_iLt:iLt=Wd.iLt) (e_iLe:iLe=Wd.iLe) (e_iEq:iEq=Wd.iEq) (e_iNe:iNe=Wd.iNe) (e_iAdd:iAdd=Wd.iAdd) (e_iSub:iSub=Wd.iSub) (e_iMul:iMul=Wd.iMul) (e_iQuo:iQuo=Wd.iQuo) (e_iRem:iRem=Wd.iRem) (e_iShr:iShr=Wd.iShr) (e_iNeg:iNeg=Wd.iNeg) (e_iCvt:iCvt=Wd.iCvt) (e_iMax:iMax=Wd.iMax) (e_iMin:iMin=Wd.iMin) (e_bNot:bNot=Wd.bNot) (e_bEq:bEq=Wd.bEq) (e_bNe:bNe=Wd.bNe) (e_bAnd:bAnd=Wd.bAnd) (e_bOr:bOr=Wd.bOr) (e_sEq:sEq=Wd.sEq) (e_sNe:sNe=Wd.sNe) (e_sLen:sLen=Wd.sLen) (e_sCat:sCat=Wd.sCat) (e_sCut:sCut=Wd.sCut) (e_sAt:sAt=Wd.sAt) (e_lenA:lenA=Wd.lenA) (e_lenN:lenN=Wd.lenN) (e_iOf:iOf=Wd.iOf) (e_natOf:natOf=Wd.natOf) (e_atA:atA=Wd.atA) (e_atN:atN=Wd.atN) (e_cutA:cutA=Wd.cutA) (e_partA:partA=Wd.partA) (e_dropA:dropA=Wd.dropA) (e_catA:catA=Wd.catA) (e_setA:setA=Wd.setA) (e_repA:repA=Wd.repA) (e_putA:putA=Wd.putA) (e_idxN:idxN=Wd.idxN) (e_addN:addN=Wd.addN) (e_subN:subN=Wd.subN) (e_minN:minN=Wd.minN) (e_lenCut:lenCut=Wd.lenCut) (e_rowA:rowA=Wd.rowA) (e_mOk:mOk=Wd.mOk) (e_mHas:mHas=Wd.mHas) (e_mGet:mGet=Wd.mGet) (e_mPut:mPut=Wd.mPut) (e_bytA:bytA=Wd.bytA) (e_encR:encR=Wd.encR) (ee:((∀ a b,iLt a b=(decide (a<b)))∧(∀ a b,iLe a b=(decide (a≤b)))∧(∀ a b,iEq a b=(a == b))∧(∀ a b,iNe a b=(a != b))∧(∀ k a b,iAdd k a b=(k.wrap (a+b)))∧(∀ k a b,iSub k a b=(k.wrap (a - b)))∧(∀ k a b,iMul k a b=(k.wrap (a * b)))∧(∀ k a b,iQuo k a b=(k.wrap (a.tdiv b)))∧(∀ a b,iRem a b=(a.tmod b))∧(∀ k a b,iShr k a b=(a.fdiv (2 ^ min b.toNat k.bits)))∧(∀ k a,iNeg k a=(k.wrap (0 - a)))∧(∀ k a,iCvt k a=(k.wrap a))∧(∀ a b,iMax a b=(if b > a then b else a))∧(∀ a b,iMin a b=(if b<a then b else a))∧(∀ a,bNot a=(!a))∧(∀ a b,bEq a b=(a == b))∧(∀ a b,bNe a b=(!(a == b)))∧(∀ a b,bAnd a b=(a && b))∧(∀ a b,bOr a b=(a || b))∧(∀ a b,sEq a b=(a.toList == b.toList))∧(∀ a b,sNe a b=(!(a.toList == b.toList)))∧(∀ a,sLen a=(a.size))∧(∀ a b,sCat a b=(a++b))∧(∀ a lo hi,sCut a lo hi=(a.extract lo.toNat hi.toNat))∧(∀ a n,sAt a n=((a.data.getD n.toNat 0).toNat))∧(∀ es,lenA es=(es.length))∧(∀ es,lenN es=(es.length))∧(∀ n,iOf n=(n))∧(∀ n,natOf n=(n.toNat))∧(∀ es n,atA es n=(es.getD n.toNat .undef))∧(∀ es n,atN es n=(es.getD n .undef))∧(∀ es lo hi,cutA es lo hi=((es.take hi.toNat).drop lo.toNat))∧(∀ es lo len,partA es lo len=((es.drop lo).take len))∧(∀ es lo,dropA es lo=(es.drop lo))∧(∀ a b,catA a b=(a++b))∧(∀ es n v,setA es n v=(es.set n v))∧(∀ n v,repA n v=(List.replicate n.toNat v))∧(∀ es lo m new,putA es lo m new=(putE es lo m new))∧(∀ lo n,idxN lo n=(lo+n.toNat))∧(∀ a b,addN a b=(a+b))∧(∀ a b,subN a b=(a - b.toNat))∧(∀ a b,minN a b=(min a b))∧(∀ lo hi,lenCut lo hi=(hi.toNat - lo.toNat))∧(∀ cs n k,rowA cs n k=((cs.drop (n.toNat * k)).take k))∧(∀ st es x,mOk st es x=(mOkL st es x))∧(∀ st es x,mHas st es x=(mHasL st es x))∧(∀ st es x z,mGet st es x z=(mGetL st es x z))∧(∀ st es x v,mPut st es x v=(mPutL st es x v))∧(∀ s,bytA s=(byteA s))∧(∀ n,encR n=(Utf8.encode n)))),p):p :=
 words h
theorem cl_cons {v:AV} {l:List AV} (h:v.closed=true) (h2:AV.closedL l=true):AV.closedL (v :: l)=true:=by simp only [AV.closedL,h,h2,Bool.and_self]
theorem cl_agg {l:List AV} (h:AV.closedL l=true):(AV.agg l).closed=true:=h
theorem cl_isl {k:Nat} {l:List AV} (h:AV.closedL l=true):(AV.isl k l).closed=true:=h
theorem cl_iptr {l:List AV} (h:AV.closedL l=true):(AV.iptr l).closed=true:=h
theorem cl_fn {f:FuncId} {l:List AV} (h:AV.closedL l=true):(AV.fn f l).closed=true:=h
section
variable {E:Env} {n N:Nat} {Q:zL→AFr→zz→Prop} {k:List KI} {F:AFr} {H:zz}
theorem oPA {o:AOper} {l:List AOper} {f:FuncId} {xs:List Opd} {args:List AV} {v:AV} (hc:PCall E f args v) (h:Holds E n N Q (.ops l) k (F.set o.dst v) H) (hg:o.guard=none:=by exact rfl) (ho:o.op=.call f xs:=by exact rfl) (ha:xs.map (·.ev E.G F)=args:=by exact rfl)
 (hcl:AV.closedL args=true:=by repeat' (first | rfl | assumption | apply cl_cons | apply cl_agg | apply cl_isl | apply cl_iptr | apply cl_fn)):Holds E n N Q (.ops (o :: l)) k F H:=on_pcall hg ho ha hc hcl h
theorem oPG {o:AOper} {l:List AOper} {f:FuncId} {xs:List Opd} {args:List AV} {v:AV} {d:Nat} {b:Bool} (hc:PCall E f args v) (h:Holds E n N Q (.ops l) k (F.set o.dst v) H) (hg:o.guard=some (d,b):=by exact rfl) (hd:F.get d=.val (.bool b):=by exact rfl) (ho:o.op=.call f xs:=by exact rfl) (ha:xs.map (·.ev E.G F)=args:=by exact rfl)
 (hcl:AV.closedL args=true:=by repeat' (first | rfl | assumption | apply cl_cons | apply cl_agg | apply cl_isl | apply cl_iptr | apply cl_fn)):Holds E n N Q (.ops (o :: l)) k F H:=on_gpcall hg hd ho ha hc hcl h
theorem oPT {K:List Kd→List zz→AFr→zz→Prop} {o:AOper} {l:List AOper} {f:FuncId} {xs:List Opd} {args:List AV} {v:AV} (hc:PCall E f args v) (h:TR E l (F.set o.dst v) H (fun ks=>K (.free :: ks))) (hg:zK F o.guard=some true:=by exact rfl) (ho:o.op=.call f xs:=by exact rfl) (ha:xs.map (·.ev E.G F)=args:=by exact rfl)
 (hcl:AV.closedL args=true:=by repeat' (first | rfl | assumption | apply cl_cons | apply cl_agg | apply cl_isl | apply cl_iptr | apply cl_fn)):TR E (o :: l) F H K:=tr_pcall hg ho ha hc hcl h
end
end Go.Am
end
