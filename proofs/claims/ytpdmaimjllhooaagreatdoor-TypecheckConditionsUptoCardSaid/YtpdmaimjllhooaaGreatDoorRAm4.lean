/- The abstract machine that the walks of this claim are carried out on: no condition. -/
import Derived.Test.YtpdmaimjllhooaaGreatDoorRAm3
import Derived.Orders
section
namespace Go.Am
def AOp.opds : AOp→List Opd
 | .mv x | .box x | .ld _ _ x | .nilchk x | .un _ x | .cvi _ x | .cvs x | .tob x | .mkif _ x | .slcs x none none | .slc _ x none none | .fa _ x | .fld _ _ _ x | .ext x _ | .len x | .lens x | .cap x | .mlen x=>[x]
 | .pick a b c=>[a,b,c]
 | .build _ ps=>ps.map fun p=>p.2.2
 | .bslice _ es=>es
 | .st _ x v=>[x,v]
 | .bin _ x y | .eqst _ _ x y | .eqb _ x y | .eqnil _ x y | .app _ _ x y | .apps x y | .appb _ _ x y | .appz _ _ _ x y | .copy _ x y=>[x,y]
 | .mkfn _ xs | .mx xs | .mn xs | .call _ xs=>xs
 | .callv x xs=>x :: xs
 | .mkslice _ _ _ l c=>[l,c]
 | .slc _ x lo hi | .slcs x lo hi=>x :: (lo.toList++hi.toList)
 | .slc3 _ x lo hi m=>x :: (lo.toList++[hi,m])
 | .ia _ x i | .iaA _ _ x i | .ixA _ _ _ x i | .ixS x i=>[x,i]
 | .mlook _ _ m x _=>[m,x]
 | .mput _ m x v=>[m,x,v]
 | .mkmap | .bnew _ | .bad=>[]
theorem evalOp1_congr {G:Nat→AV} {o:AOp} {F F':AFr} {H:zz} (h:∀ x∈o.opds,x.ev G F=x.ev G F'):zt G o F H=zt G o F' H:=by
 cases o with
 | build z ps =>
  simp only [AOp.opds,List.mem_map,forall_exists_index,and_imp,forall_apply_eq_imp_iff₂] at h
  have e1:(ps.map fun p=>(p.1,p.2.1,p.2.2.ev G F))=ps.map fun p=>(p.1,p.2.1,p.2.2.ev G F'):=List.map_congr_left fun p hp=>by rw [h p hp]
  have e2:(ps.all fun p=>(p.2.2.ev G F).cells.all AV.one)=ps.all fun p=>(p.2.2.ev G F').cells.all AV.one:=by
   rw [Bool.eq_iff_iff];simp only [List.all_eq_true]
   exact ⟨fun hh p hp=>by rw [← h p hp];exact hh p hp,fun hh p hp=>by rw [h p hp];exact hh p hp⟩
  simp only [zt,e1,e2]
 | bslice k es =>
  simp only [AOp.opds] at h
  have e1:(es.map (·.ev G F))=es.map (·.ev G F'):=List.map_congr_left fun p hp=>h p hp
  have e2:(es.all fun x=>Nat.beq (x.ev G F).cells.length k && (x.ev G F).cells.all AV.one)=es.all fun x=>Nat.beq (x.ev G F').cells.length k && (x.ev G F').cells.all AV.one:=by
   rw [Bool.eq_iff_iff];simp only [List.all_eq_true]
   exact ⟨fun hh p hp=>by rw [← h p hp];exact hh p hp,fun hh p hp=>by rw [h p hp];exact hh p hp⟩
  simp only [zt,e1,e2]
 | mkfn f xs =>
  have e1:(xs.map (·.ev G F))=xs.map (·.ev G F'):=List.map_congr_left fun p hp=>h p (by simpa [AOp.opds] using hp)
  simp only [zt,e1]
 | mx xs =>
  have e1:(xs.map (·.ev G F))=xs.map (·.ev G F'):=List.map_congr_left fun p hp=>h p (by simpa [AOp.opds] using hp)
  simp only [zt,e1]
 | mn xs =>
  have e1:(xs.map (·.ev G F))=xs.map (·.ev G F'):=List.map_congr_left fun p hp=>h p (by simpa [AOp.opds] using hp)
  simp only [zt,e1]
 | slc k x lo hi =>
  cases lo<;>cases hi<;>simp [AOp.opds] at h<;>simp [zt,zO,h]
 | slcs x lo hi =>
  cases lo<;>cases hi<;>simp [AOp.opds] at h<;>simp [zt,zO,h]
 | _=>simp [AOp.opds] at h<;>simp [zt,h]
theorem evalOp2_congr {G:Nat→AV} {o:AOp} {F F':AFr} {H:zz} (h:∀ x∈o.opds,x.ev G F=x.ev G F'):zh G o F H=zh G o F' H:=by
 cases o with
 | slc k x lo hi =>
  cases lo<;>cases hi<;>simp [AOp.opds] at h<;>simp [zh,zO,h]
 | slc3 k x lo hi m =>
  have h1:=h x (by simp [AOp.opds])
  have h2:zO G F (some hi)=zO G F' (some hi):=by simp only [zO,h hi (by simp [AOp.opds])]
  have h3:zO G F (some m)=zO G F' (some m):=by simp only [zO,h m (by simp [AOp.opds])]
  have h4:zO G F lo=zO G F' lo:=by
   cases lo with
   | none=>rfl
   | some y=>simp only [zO,h y (by simp [AOp.opds])]
  simp only [zh,h1,h2,h3,h4]
 | bin op x y=>simp [AOp.opds] at h;cases op<;>simp [zh,h]
 | _=>simp [AOp.opds] at h<;>simp [zh,h]
theorem y6 {G:Nat→AV} {o:AOp} {F F':AFr} {H:zz} (h:∀ x∈o.opds,x.ev G F=x.ev G F'):zN G o F H=zN G o F' H:=by
 simp only [zN,evalOp1_congr h,evalOp2_congr h]
def Opd.tmp : Opd→List Nat
 | .t i=>[i]
 | _=>[]
def AOper.looks (o:AOper):List Nat:=o.op.opds.flatMap Opd.tmp++(match o.guard with | some (d,_)=>[d] | none=>[])
theorem ev_congr {G:Nat→AV} {F F':AFr} {x:Opd} (h:∀ t∈x.tmp,F.get t=F'.get t):x.ev G F=x.ev G F':=by
 cases x with
 | t i=>exact h i (by simp [Opd.tmp])
 | _=>rfl
theorem xC {G:Nat→AV} {F F':AFr} {o:AOper} (h:∀ t∈o.looks,F.get t=F'.get t):∀ x∈o.op.opds,x.ev G F=x.ev G F':=fun x hx =>
 ev_congr fun t ht=>h t (List.mem_append.2 (.inl (List.mem_flatMap.2 ⟨x,hx,ht⟩)))
theorem yL {F F':AFr} {o:AOper} (h:∀ t∈o.looks,F.get t=F'.get t):zK F o.guard=zK F' o.guard:=by
 cases hg:o.guard with
 | none=>rfl
 | some p=>obtain ⟨d,b⟩:=p;simp only [zK];rw [h d (by simp [AOper.looks,hg])]
theorem looks_skip {F F':AFr} {o:AOper} (h:∀ t∈o.looks,F.get t=F'.get t) (hs:tY F' o.guard):tY F o.guard:=by
 rcases hs with hs | ⟨d,b,hg,hu⟩
 · exact .inl (by rw [yL h];exact hs)
 · exact .inr ⟨d,b,hg,by rw [h d (by simp [AOper.looks,hg])];exact hu⟩
def vR : List AOper→List Nat→List Nat
 | [],acc=>acc
 | o :: r,acc=>vR r (acc++[o.after.foldl (fun s k=>s ||| 2 ^ k ||| acc.getD k 0) 0])
inductive Anc (ops:List AOper):Nat→Nat→Prop
 | one {k i:Nat} {o:AOper} (h:ops[i]? = some o) (hk:k∈o.after):Anc ops k i
 | more {k j i:Nat} {o:AOper} (h:ops[i]? = some o) (hj:j∈o.after) (hk:Anc ops k j):Anc ops k i
theorem foldl_bits (acc:List Nat) (k:Nat):∀ (l:List Nat) (s:Nat),(l.foldl (fun s k=>s ||| 2 ^ k ||| acc.getD k 0) s).testBit k=true→s.testBit k=true∨∃ j∈l,k=j∨(acc.getD j 0).testBit k=true
 | [],s,h=>.inl h
 | x :: r,s,h=>by
  rcases foldl_bits acc k r _ h with h | ⟨j,hj,h⟩
  · rw [Nat.testBit_or,Nat.testBit_or,Bool.or_eq_true,Bool.or_eq_true] at h
    rcases h with (h | h) | h
    · exact .inl h
    · rw [Nat.testBit_two_pow] at h;simp at h;exact .inr ⟨x,List.mem_cons_self,.inl h.symm⟩
    · exact .inr ⟨x,List.mem_cons_self,.inr h⟩
  · exact .inr ⟨j,List.mem_cons_of_mem _ hj,h⟩
theorem v6 : ∀ (r done:List AOper) (acc:List Nat),acc.length=done.length→(∀ i k,(acc.getD i 0).testBit k=true→Anc (done++r) k i)→∀ i k,((vR r acc).getD i 0).testBit k=true→Anc (done++r) k i
 | [],done,acc,hl,h=>h
 | o :: r,done,acc,hl,h=>by
  have:=v6 r (done++[o]) (acc++[o.after.foldl (fun s k=>s ||| 2 ^ k ||| acc.getD k 0) 0]) (by simp [hl]) (fun i k hk=>by
   rw [List.append_assoc,List.singleton_append]
   rcases Nat.lt_trichotomy i acc.length with hi | hi | hi
   · rw [List.getD_eq_getElem?_getD,List.getElem?_append_left hi,← List.getD_eq_getElem?_getD] at hk;exact h i k hk
   · subst hi
     rw [List.getD_eq_getElem?_getD,List.getElem?_append_right (Nat.le_refl _)] at hk
     simp at hk
     have ho:(done++o :: r)[acc.length]? = some o:=by rw [hl];simp
     rcases foldl_bits acc k _ _ (by simpa using hk) with h0 | ⟨j,hj,rfl | h1⟩
     · simp at h0
     · exact .one ho hj
     · exact .more ho hj (h j k h1)
   · rw [List.getD_eq_getElem?_getD,List.getElem?_eq_none (by simp;omega)] at hk;simp at hk)
  rw [List.append_assoc,List.singleton_append] at this
  exact this
def Runs (ops:List AOper):List Nat→List Nat→Prop
 | S,[]=>∀ i,i<ops.length→i∈S
 | S,i :: l=>i∉S∧(∃ o,ops[i]? = some o∧∀ k∈o.after,k∈S)∧Runs ops (i :: S) l
def tQ (ops:List AOper) (S:List Nat):Prop:=∀ i∈S,∀ o,ops[i]? = some o→∀ k∈o.after,k∈S
theorem Anc.mem {ops:List AOper} {S:List Nat} (hS:tQ ops S) {k i:Nat} (h:Anc ops k i):(∃ o,ops[i]? = some o∧∀ k∈o.after,k∈S)→k∈S:=by
 induction h with
 | one h hk=>rintro ⟨o',h',ha⟩;rw [h] at h';cases h';exact ha _ hk
 | @more j i o h hj hk ih =>
  rintro ⟨o',h',ha⟩
  rw [h] at h';cases h'
  obtain ⟨oj,hoj⟩:∃ oj,ops[j]? = some oj:=by
   cases hk with
   | one h2 _=>exact ⟨_,h2⟩
   | more h2 _ _=>exact ⟨_,h2⟩
  exact ih ⟨oj,hoj,hS j (ha j hj) oj hoj⟩
def xv (B:List Nat):Nat→List Nat→List (List Nat)
 | 0,_=>[[]]
 | _+1,[]=>[[]]
 | f+1,rem=>rem.flatMap fun e=>if rem.any fun r=>r != e && (B.getD e 0).testBit r then [] else (xv B f (rem.filter (· != e))).map (e :: ·)
theorem chains_mem {ops:List AOper} {B:List Nat} (hB:∀ i k,(B.getD i 0).testBit k=true→Anc ops k i) (effs:List Nat) (hlt:∀ e∈effs,e<ops.length):∀ (l S:List Nat) (f:Nat),tQ ops S→Runs ops S l→(effs.filter (fun e=>!S.contains e)).length≤f →
 l.filter (effs.contains ·)∈xv B f (effs.filter fun e=>!S.contains e):=by
 intro l
 induction l with
 | nil =>
  intro S f hS hr hf
  have:(effs.filter fun e=>!S.contains e)=[]:=by
   apply List.filter_eq_nil_iff.2
   intro e he;simp;exact hr e (hlt e he)
  rw [this];cases f<;>simp [xv]
 | cons i l ih =>
  intro S f hS hr hf
  obtain ⟨h1,h2,h3⟩:=hr
  have hS':tQ ops (i :: S):=by
   intro x hx o ho k hk
   rcases List.mem_cons.1 hx with rfl | hx
   · obtain ⟨o',ho',ha⟩:=h2;rw [ho] at ho';cases ho';exact List.mem_cons_of_mem _ (ha k hk)
   · exact List.mem_cons_of_mem _ (hS x hx o ho k hk)
  by_cases he:effs.contains i=true
  · rw [List.filter_cons_of_pos (by simpa using he)]
    have hmem:i∈effs.filter fun e=>!S.contains e:=List.mem_filter.2 ⟨by simpa using he,by simpa using h1⟩
    have hrem:(effs.filter fun e=>!(i :: S).contains e)=(effs.filter fun e=>!S.contains e).filter (· != i):=by
     rw [List.filter_filter];apply List.filter_congr;intro x _;by_cases hx:x=i<;>simp [hx]
    have hlen:((effs.filter fun e=>!S.contains e).filter (· != i)).length<(effs.filter fun e=>!S.contains e).length:=by
     rw [List.length_filter_lt_length_iff_exists]
     exact ⟨i,hmem,by simp⟩
    cases f with
    | zero=>have:=List.length_pos_of_mem hmem;omega
    | succ f =>
     have:=ih (i :: S) f hS' h3 (by rw [hrem];omega)
     rw [hrem] at this
     have hremS:∀ r∈(effs.filter fun e=>!S.contains e),r∉S:=fun r hr=>by simpa using (List.mem_filter.1 hr).2
     generalize (effs.filter fun e=>!S.contains e)=rem at hmem this hlen hremS ⊢
     have hcs:xv B (f+1) rem=rem.flatMap fun e=>if rem.any fun r=>r != e && (B.getD e 0).testBit r then [] else (xv B f (rem.filter (· != e))).map (e :: ·):=by
      cases rem with
      | nil=>cases hmem
      | cons _ _=>rfl
     rw [hcs]
     refine List.mem_flatMap.2 ⟨i,hmem,?_⟩
     rw [if_neg]
     · exact List.mem_map_of_mem this
     · intro hany
       obtain ⟨r,hr,hb⟩:=List.any_eq_true.1 hany
       simp only [Bool.and_eq_true] at hb
       have hk:=(hB i r hb.2).mem hS h2
       exact hremS r hr hk
  · rw [List.filter_cons_of_neg (by simpa using he)]
    have hrem:(effs.filter fun e=>!(i :: S).contains e)=(effs.filter fun e=>!S.contains e):=by
     apply List.filter_congr;intro x hx
     by_cases hxi:x=i
     · subst hxi;exact absurd (by simpa using hx) he
     · simp [hxi]
    rw [← hrem] at hf ⊢
    exact ih (i :: S) f hS' h3 hf
theorem Runs.notin {ops:List AOper}:∀ {l S:List Nat},Runs ops S l→∀ i∈l,i∉S
 | [],S,h,i,hi=>by cases hi
 | x :: l,S,h,i,hi=>by
  rcases List.mem_cons.1 hi with rfl | hi
  · exact h.1
  · exact fun hs=>Runs.notin h.2.2 i hi (List.mem_cons_of_mem _ hs)
theorem Runs.nodup {ops:List AOper}:∀ {l S:List Nat},Runs ops S l→l.Nodup
 | [],_S,_h=>List.nodup_nil
 | x :: _l,_S,h=>List.nodup_cons.2 ⟨fun hx=>Runs.notin h.2.2 x hx List.mem_cons_self,Runs.nodup h.2.2⟩
theorem go_runs {P:Program} {n:Nat} {os:Array Oper} {ops:List AOper} (hops:ops=os.toList.map (zQ P n os)) (hwf:∀ (i:Nat) (o:AOper),ops[i]? = some o→∀ k∈o.after,k<i) :
 ∀ (fuel t:Nat) (listed:Array Bool) (S:List Nat),listed.size=os.size→(∀ i,i<os.size→(listed.getD i false=true↔i∈S))→((List.range os.size).filter fun i=>!S.contains i).length≤fuel →
  Runs ops S (Region.linearise.go .any os fuel t listed []):=by
 have hlen:ops.length=os.size:=by rw [hops];simp
 have hget:∀ (i:Nat) (o':AOper),ops[i]? = some o'→∃ o,os[i]? = some o∧o'=zQ P n os o:=by
  intro i o' h
  rw [hops,List.getElem?_map] at h
  obtain ⟨o,h1,h2⟩:=Option.map_eq_some_iff.1 h
  exact ⟨o,by simpa using h1,h2.symm⟩
 have haft:∀ o,(zQ P n os o).after=(o.after.toList.filter binds).map (·.on):=by
  intro o;unfold zQ;split<;>rfl
 have hgd:∀ (listed:Array Bool) (i:Nat),i<listed.size→listed.getD i true=listed.getD i false:=by
  intro listed i hi;simp [hi]
 intro fuel
 induction fuel with
 | zero =>
  intro t listed S hs hl hf i hi
  by_cases h:i∈S
  · exact h
  · have:i∈(List.range os.size).filter fun i=>!S.contains i:=List.mem_filter.2 ⟨List.mem_range.2 (by omega),by simpa using h⟩
    have:=List.length_pos_of_mem this
    omega
 | succ fuel ih =>
  intro t listed S hs hl hf
  simp only [Region.linearise.go]
  change Runs ops S (match (Region.ready .any os listed)[t % (Region.ready .any os listed).length]? with
   | some i=>Region.linearise.go .any os fuel (t / (Region.ready .any os listed).length) (listed.setIfInBounds i true) [i]
   | none=>[].reverse)
  cases hi:(Region.ready .any os listed)[t % (Region.ready .any os listed).length]? with
  | none =>
   have hnil:Region.ready .any os listed=[]:=by
    cases hr:Region.ready .any os listed with
    | nil=>rfl
    | cons x xs =>
     rw [hr] at hi
     have hlt:t % (x :: xs).length<(x :: xs).length:=Nat.mod_lt _ (by simp)
     simp at hi
     simp at hlt
     omega
   intro i hi
   induction i using Nat.strongRecOn with
   | _ i ihi =>
    rcases Classical.em (i∈S) with h | h
    · exact h
    · exfalso
      have hb:i<os.size:=by omega
      have hmem:i∈Region.ready .any os listed:=by
       refine List.mem_filter.2 ⟨List.mem_range.2 hb,?_⟩
       have h1:listed.getD i false=false:=by cases hx:listed.getD i false with
        | false=>rfl
        | true=>exact absurd ((hl i hb).1 hx) h
       rw [hgd listed i (by omega),h1]
       have hoi:os[i]? = some os[i]:=by simp [hb]
       have hopi:ops[i]? = some (zQ P n os os[i]):=by rw [hops,List.getElem?_map];simp [hb]
       rw [hoi]
       simp only [Bool.not_false,Bool.true_and,Option.map_some,Option.getD_some]
       refine Array.all_eq_true_iff_forall_mem.2 fun e he=>?_
       cases hbe:Region.binds .any e with
       | false=>rfl
       | true =>
        have hlt:=hwf i _ hopi e.on (by rw [haft];exact List.mem_map_of_mem (List.mem_filter.2 ⟨by simpa using he,hbe⟩))
        simp only [Bool.not_true,Bool.false_or]
        exact (hl _ (by omega)).2 (ihi _ hlt (by omega))
      rw [hnil] at hmem;cases hmem
  | some i =>
   simp only []
   rw [linearise_go_acc,List.reverse_singleton,List.singleton_append]
   have hm:=List.mem_of_getElem? hi
   obtain ⟨h1,o,h2,h3⟩:=mem_ready.1 hm
   have hb:i<os.size:=(Array.getElem?_eq_some_iff.1 h2).1
   have hopi:ops[i]? = some (zQ P n os o):=by rw [hops,List.getElem?_map];simp [h2]
   have hnS:i∉S:=fun h=>by rw [hgd listed i (by omega)] at h1;rw [(hl i hb).2 h] at h1;cases h1
   refine ⟨hnS,⟨_,hopi,fun k hk=>?_⟩,ih _ _ _ (by simpa using hs) (fun x hx=>?_) ?_⟩
   · have hki:=hwf i _ hopi k hk
     rw [haft] at hk
     obtain ⟨e,he,rfl⟩:=List.mem_map.1 hk
     obtain ⟨he1,he2⟩:=List.mem_filter.1 he
     exact (hl _ (by omega)).1 (h3 e (by simpa using he1) he2)
   · by_cases hxi:i=x
     · subst hxi;simp [hb,hs]
     · have:(listed.setIfInBounds i true).getD x false=listed.getD x false:=by
        simp only [Array.getD_eq_getD_getElem?,Array.getElem?_setIfInBounds];rw [if_neg hxi]
       rw [this,hl x hx];simp [Ne.symm hxi]
   · have hrem:((List.range os.size).filter fun e=>!(i :: S).contains e)=((List.range os.size).filter fun e=>!S.contains e).filter (· != i):=by
      rw [List.filter_filter];apply List.filter_congr;intro x _;by_cases hx:x=i<;>simp [hx]
     have hlen:(((List.range os.size).filter fun e=>!S.contains e).filter (· != i)).length<((List.range os.size).filter fun e=>!S.contains e).length:=by
      rw [List.length_filter_lt_length_iff_exists]
      exact ⟨i,List.mem_filter.2 ⟨List.mem_range.2 hb,by simpa using hnS⟩,by simp⟩
     rw [hrem];omega
def wJ (F:AFr):List AOper→List AV→AFr
 | o :: r,v :: vs=>wJ (F.set o.dst v) r vs
 | _,_=>F
def tx (B chain:List Nat) (i j:Nat):Bool :=
 (chain.take j).all (fun e=>!(B.getD e 0).testBit i) && (chain.drop j).all (fun e=>!(B.getD i 0).testBit e)
inductive DOp (E:Env) (B chain:List Nat) (Ff:AFr) (Hs:List zz) (i:Nat) (o:AOper) (v:AV):Prop
 | skip (hg:tY Ff o.guard) (hv:v=.undef∨v=skV o) (hc:chain.contains i=false)
 | free (hg:zK Ff o.guard=some true) (h:∀ H,∃ c,zN E.G o.op Ff H=some (c,v,H)∧c=true) (hc:chain.contains i=false)
 | look (hg:zK Ff o.guard=some true) (h:∀ (j:Nat) H,Hs[j]? = some H→tx B chain i j=true→∃ c,zN E.G o.op Ff H=some (c,v,H)∧c=true) (hc:chain.contains i=false)
 | call (f:FuncId) (xs:List Opd) (args:List AV) (hg:zK Ff o.guard=some true) (ho:o.op=.call f xs) (ha:xs.map (·.ev E.G Ff)=args) (hen:yr E.P f)
  (h:∀ (j:Nat) H,Hs[j]? = some H→tx B chain i j=true→ACall E f args H fun v' H'=>v'=v∧H'=H) (hc:chain.contains i=false)
 | bslf (kk:Nat) (xs:List Opd) (es:List AV) (hg:zK Ff o.guard=some true) (ho:o.op=.bslice kk xs) (ha:xs.map (·.ev E.G Ff)=es) (hf:wI kk es=true) (hv:v=.isl kk es) (hc:chain.contains i=false)
 | eff (j:Nat) (H H':zz) (c:Bool) (hg:zK Ff o.guard=some true) (hj:chain[j]? = some i) (h1:Hs[j]? = some H) (h2:Hs[j+1]? = some H') (h:zN E.G o.op Ff H=some (c,v,H')) (hc:c=true)
 | ecall (j:Nat) (H H':zz) (f:FuncId) (xs:List Opd) (args:List AV) (hg:zK Ff o.guard=some true) (hj:chain[j]? = some i) (h1:Hs[j]? = some H) (h2:Hs[j+1]? = some H') (ho:o.op=.call f xs) (ha:xs.map (·.ev E.G Ff)=args) (hen:yr E.P f)
  (h:ACall E f args H fun v' H''=>v'=v∧H''=H')
def vI (ops:List AOper) (B:List Nat):Bool :=
 (List.range ops.length).all fun i=>match ops[i]? with
  | some o=>o.after.all (Nat.blt · i) && (match o.dst with
   | some d=>(List.range ops.length).all fun k=>Nat.beq k i || (match ops[k]? with | some o'=>(match o'.dst with | some d'=>!Nat.beq d' d | none=>true) | none=>true)
   | none=>true) && o.looks.all fun t=>(List.range ops.length).all fun k=>match ops[k]? with
    | some o'=>(match o'.dst with | some d=>!Nat.beq d t || (B.getD i 0).testBit k | none=>true)
    | none=>true
  | none=>true
structure WfD (ops:List AOper) (B:List Nat):Prop where
 aft:∀ (i:Nat) (o:AOper),ops[i]? = some o→∀ k∈o.after,k<i
 dst:∀ (i k:Nat) (o o':AOper) d,ops[i]? = some o→ops[k]? = some o'→o.dst=some d→o'.dst=some d→k=i
 look:∀ (i k:Nat) (o o':AOper) t,ops[i]? = some o→ops[k]? = some o'→t∈o.looks→o'.dst=some t→(B.getD i 0).testBit k=true
theorem wfDraw_spec {ops:List AOper} {B:List Nat} (h:vI ops B=true):WfD ops B:=by
 have lt:∀ (i:Nat) (o:AOper),ops[i]? = some o→i<ops.length:=fun i o h=>(List.getElem?_eq_some_iff.1 h).1
 unfold vI at h
 simp only [List.all_eq_true,List.mem_range] at h
 refine ⟨fun i o hi k hk=>?_,fun i k o o' d hi hk h1 h2=>?_,fun i k o o' t hi hk h1 h2=>?_⟩
 · have h0:=h i (lt i o hi)
   simp only [hi,Bool.and_eq_true,List.all_eq_true] at h0
   have:=h0.1.1 k hk
   exact Nat.le_of_ble_eq_true this
 · have h0:=h i (lt i o hi)
   simp only [hi,h1,Bool.and_eq_true,List.all_eq_true,List.mem_range] at h0
   have h3:=h0.1.2 k (lt k o' hk)
   simp only [hk,h2,Bool.or_eq_true,Nat.beq_refl] at h3
   rcases h3 with h3 | h3
   · exact Nat.eq_of_beq_eq_true h3
   · cases h3
 · have h0:=h i (lt i o hi)
   simp only [hi,Bool.and_eq_true,List.all_eq_true,List.mem_range] at h0
   have h3:=h0.2 t h1 k (lt k o' hk)
   simp only [hk,h2,Nat.beq_refl,Bool.not_true,Bool.false_or] at h3
   exact h3
theorem AFr.get_set (F:AFr) (d:Option Nat) (v:AV) (t:Nat):(F.set d v).get t=if d=some t then v else F.get t:=by
 cases d with
 | none=>simp [AFr.set]
 | some d =>
  simp only [AFr.set,AFr.get]
  by_cases e:d=t
  · subst e;simp [Nat.beq_refl]
  · have hb:Nat.beq d t=false:=by cases hbb:Nat.beq d t with
     | false=>rfl
     | true=>exact absurd (Nat.eq_of_beq_eq_true hbb) e
    rw [hb,cond_false,if_neg (by simpa using e)]
theorem wX : ∀ (ops:List AOper) (V:List AV) (F:AFr) (t:Nat),(∀ (i:Nat) o,ops[i]? = some o→o.dst≠some t)→(wJ F ops V).get t=F.get t
 | [],_,F,t,h=>by simp [wJ]
 | o :: r,[],F,t,h=>by simp [wJ]
 | o :: r,v :: vs,F,t,h=>by
  simp only [wJ]
  rw [wX r vs _ t (fun i o' hi=>h (i+1) o' hi),AFr.get_set,if_neg (h 0 o rfl)]
theorem finF_some : ∀ (ops:List AOper) (V:List AV) (F:AFr) (i:Nat) (o:AOper) (v:AV) (t:Nat),ops[i]? = some o→V[i]? = some v→o.dst=some t→(∀ (k:Nat) o',ops[k]? = some o'→o'.dst=some t→k=i)→(wJ F ops V).get t=v
 | [],_,F,i,o,v,t,h,_,_,_=>by simp at h
 | _ :: _,[],F,i,o,v,t,_,h,_,_=>by simp at h
 | o0 :: r,v0 :: vs,F,0,o,v,t,h1,h2,h3,h4=>by
  simp at h1 h2;subst h1 h2
  simp only [wJ]
  rw [wX r vs _ t (fun i o' hi hd=>by have:=h4 (i+1) o' (by simpa using hi) hd;omega),AFr.get_set,if_pos h3]
 | o0 :: r,v0 :: vs,F,i+1,o,v,t,h1,h2,h3,h4=>by
  simp only [wJ]
  exact finF_some r vs _ i o v t (by simpa using h1) (by simpa using h2) h3 (fun k o' hk hd=>by have:=h4 (k+1) o' (by simpa using hk) hd;omega)
section
variable {E:Env} {n N:Nat} {F:AFr} {H:zz}
theorem sim {ops:List AOper} {B chain effs:List Nat} {V:List AV} {Hs:List zz} {Q:AFr→zz→Prop} (wf:WfD ops B) (hB:∀ i k,(B.getD i 0).testBit k=true→Anc ops k i) (hV:V.length=ops.length) (hHs:Hs.length=chain.length+1) (hnd:chain.Nodup) (hef:∀ i,effs.contains i=chain.contains i)
 (hD:∀ (i:Nat) o v,ops[i]? = some o→V[i]? = some v→DOp E B chain (wJ F ops V) Hs i o v) (hQ:∀ F' Hm,Hs[chain.length]? = some Hm→(∀ t,F'.get t=(wJ F ops V).get t)→Q F' Hm) :
 ∀ (l S:List Nat) (Fc:AFr) (j:Nat) (Hj:zz),Runs ops S l→tQ ops S→(∀ i∈S,∀ o v d,ops[i]? = some o→V[i]? = some v→o.dst=some d→Fc.get d=v)→(∀ t,(∀ (i:Nat) o,ops[i]? = some o→o.dst≠some t)→Fc.get t=F.get t) →
  Hs[j]? = some Hj→chain.drop j=l.filter (effs.contains ·)→(∀ e∈chain.take j,e∈S)→AOps E n N (l.map fun i=>ops.getD i default) Fc Hj Q:=by
 have hfin:∀ (i:Nat) o v d,ops[i]? = some o→V[i]? = some v→o.dst=some d→(wJ F ops V).get d=v:=fun i o v d h1 h2 h3=>finF_some ops V F i o v d h1 h2 h3 fun k o' hk hd=>wf.dst i k o o' d h1 hk h3 hd
 have getV:∀ (i:Nat) o,ops[i]? = some o→∃ v,V[i]? = some v:=fun i o h=>⟨_,List.getElem?_eq_getElem (by have:=(List.getElem?_eq_some_iff.1 h).1;omega)⟩
 have look:∀ (S:List Nat) (Fc:AFr),tQ ops S→(∀ i∈S,∀ o v d,ops[i]? = some o→V[i]? = some v→o.dst=some d→Fc.get d=v)→(∀ t,(∀ (i:Nat) o,ops[i]? = some o→o.dst≠some t)→Fc.get t=F.get t) →
  ∀ (i:Nat) (o:AOper),ops[i]? = some o→(∀ k∈o.after,k∈S)→∀ t∈o.looks,Fc.get t=(wJ F ops V).get t:=by
  intro S Fc hS ha hb i o hi haft t ht
  rcases Classical.em (∃ (k:Nat) (o':AOper),ops[k]? = some o'∧o'.dst=some t) with ⟨k,o',hk,hd⟩ | hno
  · obtain ⟨v,hv⟩:=getV k o' hk
    have hkS:=(hB i k (wf.look i k o o' t hi hk ht hd)).mem hS ⟨o,hi,haft⟩
    rw [hfin k o' v t hk hv hd];exact ha k hkS o' v t hk hv hd
  · have hno':∀ (i:Nat) o,ops[i]? = some o→o.dst≠some t:=fun k o' hk hd=>hno ⟨k,o',hk,hd⟩
    rw [hb t hno',wX ops V F t hno']
 intro l
 induction l with
 | nil =>
  intro S Fc j Hj hr hS ha hb hj hch htk
  have hjle:j=chain.length:=by
   have h1:chain.length≤j:=by simpa using List.drop_eq_nil_iff.1 hch
   have h2:=(List.getElem?_eq_some_iff.1 hj).1
   omega
  subst hjle
  refine aops_nil (hQ Fc Hj hj fun t=>?_)
  rcases Classical.em (∃ (k:Nat) (o':AOper),ops[k]? = some o'∧o'.dst=some t) with ⟨k,o',hk,hd⟩ | hno
  · obtain ⟨v,hv⟩:=getV k o' hk
    rw [hfin k o' v t hk hv hd];exact ha k (hr k (List.getElem?_eq_some_iff.1 hk).1) o' v t hk hv hd
  · have hno':∀ (i:Nat) o,ops[i]? = some o→o.dst≠some t:=fun k o' hk hd=>hno ⟨k,o',hk,hd⟩
    rw [hb t hno',wX ops V F t hno']
 | cons i l ih =>
  intro S Fc j Hj hr hS ha hb hj hch htk
  have hnot:=hr.notin
  obtain ⟨h1,⟨o,ho,haft⟩,h3⟩:=hr
  obtain ⟨v,hv⟩:=getV i o ho
  have hget:ops.getD i default=o:=by simp [List.getD_eq_getElem?_getD,ho]
  rw [List.map_cons,hget]
  have hS':tQ ops (i :: S):=by
   intro x hx o' ho' k hk
   rcases List.mem_cons.1 hx with rfl | hx
   · rw [ho] at ho';cases ho';exact List.mem_cons_of_mem _ (haft k hk)
   · exact List.mem_cons_of_mem _ (hS x hx o' ho' k hk)
  have hlk:=look S Fc hS ha hb i o ho haft
  have hwant:=yL hlk
  have hev:=xC (G:=E.G) hlk
  have hop:∀ H,zN E.G o.op Fc H=zN E.G o.op (wJ F ops V) H:=fun H=>y6 hev
  -- the frame behind the operation
  have ha':∀ k∈i :: S,∀ o' v' d,ops[k]? = some o'→V[k]? = some v'→o'.dst=some d→(Fc.set o.dst v).get d=v':=by
   intro k hk o' v' d hk1 hk2 hk3
   rw [AFr.get_set]
   by_cases hd:o.dst=some d
   · have:=wf.dst i k o o' d ho hk1 hd hk3
     subst this
     rw [hv] at hk2;cases hk2;rw [if_pos hd]
   · rw [if_neg hd]
     rcases List.mem_cons.1 hk with rfl | hk
     · rw [ho] at hk1;cases hk1;exact absurd hk3 hd
     · exact ha k hk o' v' d hk1 hk2 hk3
  have hb':∀ t,(∀ (i:Nat) o,ops[i]? = some o→o.dst≠some t)→(Fc.set o.dst v).get t=F.get t:=by
   intro t ht;rw [AFr.get_set,if_neg (ht i o ho)];exact hb t ht
  have hpos:chain.contains i=false→tx B chain i j=true:=by
   intro hc
   simp only [tx,Bool.and_eq_true,List.all_eq_true,Bool.not_eq_true']
   refine ⟨fun e he=>?_,fun e he=>?_⟩
   · cases hb2:(B.getD e 0).testBit i with
     | false=>rfl
     | true =>
      have heS:=htk e he
      have hanc:=hB e i hb2
      obtain ⟨oe,hoe⟩:∃ oe,ops[e]? = some oe:=by
       cases hanc with
       | one h2 _=>exact ⟨_,h2⟩
       | more h2 _ _=>exact ⟨_,h2⟩
      exact absurd (hanc.mem hS ⟨oe,hoe,hS e heS oe hoe⟩) h1
   · cases hb2:(B.getD i 0).testBit e with
     | false=>rfl
     | true =>
      have heS:=(hB i e hb2).mem hS ⟨o,ho,haft⟩
      rw [hch] at he
      exact absurd heS (hnot e (List.mem_filter.1 he).1)
  have quiet:chain.contains i=false→AOps E n N (l.map fun i=>ops.getD i default) (Fc.set o.dst v) Hj Q:=by
   intro hc
   refine ih (i :: S) _ j Hj h3 hS' ha' hb' hj ?_ (fun e he=>List.mem_cons_of_mem _ (htk e he))
   rw [hch,List.filter_cons_of_neg (by rw [hef,hc];simp)]
  have loud:∀ j' H',chain[j']? = some i→Hs[j'+1]? = some H'→j'=j∧AOps E n N (l.map fun i=>ops.getD i default) (Fc.set o.dst v) H' Q:=by
   intro j' H' hj' hH'
   have hc:chain.contains i=true:=by simpa using List.mem_of_getElem? hj'
   have hd:chain.drop j=i :: l.filter (effs.contains ·):=by rw [hch,List.filter_cons_of_pos (by rw [hef,hc])]
   have hij:chain[j]? = some i:=by
    have:(chain.drop j)[0]? = some i:=by rw [hd];rfl
    simpa using this
   have hjj:j'=j:=by
    obtain ⟨a1,a2⟩:=List.getElem?_eq_some_iff.1 hj'
    obtain ⟨b1,b2⟩:=List.getElem?_eq_some_iff.1 hij
    exact (List.getElem_inj hnd).1 (a2.trans b2.symm)
   subst hjj
   refine ⟨rfl,ih (i :: S) _ (j'+1) H' h3 hS' ha' hb' hH' ?_ fun e he=>?_⟩
   · have:=congrArg (List.drop 1) hd
     rw [List.drop_drop] at this
     simpa using this
   · rw [List.take_add_one,hij] at he
     rcases List.mem_append.1 he with he | he
     · exact List.mem_cons_of_mem _ (htk e he)
     · simp at he;subst he;exact List.mem_cons_self
  cases hD i o v ho hv with
  | skip hg hv0 hc=>exact aops_skipG (looks_skip hlk hg) hv0 (quiet hc)
  | free hg h hc=>obtain ⟨c,e1,e2⟩:=h Hj;exact xm (by rw [hwant];exact hg) (by rw [hop];exact e1) e2 (quiet hc)
  | look hg h hc=>obtain ⟨c,e1,e2⟩:=h j Hj hj (hpos hc);exact xm (by rw [hwant];exact hg) (by rw [hop];exact e1) e2 (quiet hc)
  | call f xs args hg ho2 harg hen h hc =>
   refine xL (by rw [hwant];exact hg) ho2 ?_ hen (h j Hj hj (hpos hc)) (by rintro v' H1 ⟨rfl,rfl⟩;exact quiet hc)
   rw [← harg];exact List.map_congr_left fun x hx=>hev x (by rw [ho2];exact hx)
  | bslf kk xs es hg ho2 harg hf hv0 hc =>
   refine aops_bslf (es:=es) (by rw [hwant];exact hg) ho2 ?_ hf (by rw [← hv0];exact quiet hc)
   rw [← harg];exact List.map_congr_left fun x hx=>hev x (by rw [ho2];exact hx)
  | eff j' H1 H2 c hg hj' e1 e2 h hc =>
   obtain ⟨rfl,hk⟩:=loud j' H2 hj' e2
   rw [hj] at e1;cases e1
   exact xm (by rw [hwant];exact hg) (by rw [hop];exact h) hc hk
  | ecall j' H1 H2 f xs args hg hj' e1 e2 ho2 harg hen h =>
   obtain ⟨rfl,hk⟩:=loud j' H2 hj' e2
   rw [hj] at e1;cases e1
   refine xL (by rw [hwant];exact hg) ho2 ?_ hen h (by rintro v' H1 ⟨rfl,rfl⟩;exact hk)
   rw [← harg];exact List.map_congr_left fun x hx=>hev x (by rw [ho2];exact hx)
theorem AOps.frame {aops:List AOper} {Q:AFr→zz→Prop} (h:AOps E n N aops F H (fun F' H'=>∃ F'',(∀ t,F'.get t=F''.get t)∧Q F'' H')):AOps E n N aops F H Q:=by
 intro ops l hl K w tmps T ds k cs h1 h2 h3
 obtain ⟨F',H',K',w',t',⟨F'',hg,q⟩,a1,a2,a3,a4⟩:=h ops l hl K w tmps T ds k cs h1 h2 h3
 exact ⟨F'',H',K',w',t',q,a1,⟨a2.1,fun t=>by rw [← hg t];exact a2.2 t⟩,a3,a4⟩
theorem awp_draw {ops:List AOper} {Q:zL→AFr→zz→Prop} (hm:E.P.follows .mixedOrders=true) (effs:List Nat) (hwf:vI ops (vR ops [])=true) (hlt:effs.all (Nat.blt · ops.length)=true) (_hnd:effs.Nodup)
 (h:∀ chain∈xv (vR ops []) effs.length effs,∃ V Hs Hm,V.length=ops.length∧Hs.length=chain.length+1∧Hs[0]? = some H∧(∀ (i:Nat) o v,ops[i]? = some o→V[i]? = some v→DOp E (vR ops []) chain (wJ F ops V) Hs i o v) ∧
  Hs[chain.length]? = some Hm∧Q .normal (wJ F ops V) Hm):AWP E n N (.draw ops) F H Q:=by
 refine xx fun c hc hns K w tmps T rs k cs h1 h2 h3 h4=>?_
 cases c with
 | region id os d =>
  simp only [yj] at hc
  split at hc
  · rename_i hd
    subst hd
    simp only [ACode.draw.injEq] at hc
    have wf:=wfDraw_spec hwf
    have hB:∀ i k,((vR ops []).getD i 0).testBit k=true→Anc ops k i:=by
     have:=v6 ops [] [] rfl (fun i k hk=>by simp at hk)
     simpa using this
    let t:=w.tape w.drawn (.order T.fn id)
    have hlen:ops.length=os.size:=by rw [← hc];simp
    have hruns:Runs ops [] (Region.schedule (E.P.follows .mixedOrders) os t):=by
     rw [hm]
     simp only [Region.schedule,Bool.true_or,if_true,Region.linearise]
     refine go_runs hc.symm wf.aft os.size t _ [] (by simp) (fun i hi=>by simp [hi]) (by have:=List.length_filter_le (fun i=>!([]:List Nat).contains i) (List.range os.size);simpa using this)
    have hltP:∀ e∈effs,e<ops.length:=fun e he=>Nat.le_of_ble_eq_true (List.all_eq_true.1 hlt e he)
    have hch:=chains_mem (B:=vR ops []) hB effs hltP _ [] effs.length (fun i hi=>by cases hi) hruns (List.length_filter_le _ _)
    have hself:(effs.filter fun e=>!([]:List Nat).contains e)=effs:=by simp
    rw [hself] at hch
    obtain ⟨V,Hs,Hm,hV,hHs,h0,hD,hHm,hq⟩:=h _ hch
    generalize hsch:Region.schedule (E.P.follows .mixedOrders) os t=l at hruns hch hHs hD hHm
    have hall:∀ e,e<ops.length→e∈l:=by
     have:∀ (l S:List Nat),Runs ops S l→∀ e,e<ops.length→e∈S∨e∈l:=by
      intro l
      induction l with
      | nil=>intro S hr e he;exact .inl (hr e he)
      | cons x l ih =>
       intro S hr e he
       rcases ih _ hr.2.2 e he with h | h
       · rcases List.mem_cons.1 h with rfl | h
         · exact .inr List.mem_cons_self
         · exact .inl h
       · exact .inr (List.mem_cons_of_mem _ h)
     intro e he
     rcases this l [] hruns e he with h | h
     · cases h
     · exact h
    have hef:∀ i,effs.contains i=(l.filter (effs.contains ·)).contains i:=by
     intro i
     rw [Bool.eq_iff_iff]
     simp only [List.contains_iff_mem,List.mem_filter]
     exact ⟨fun hi=>⟨hall i (hltP i hi),hi⟩,fun hi=>hi.2⟩
    have key:=sim (E:=E) (n:=n) (N:=N) (F:=F) (Q:=fun F' H'=>∃ F'',(∀ t,F'.get t=F''.get t)∧Q .normal F'' H') wf hB hV hHs (hruns.nodup.filter _) hef hD
     (fun F' Hm' hHm' hg=>by rw [hHm] at hHm';cases hHm';exact ⟨_,hg,hq⟩) l [] F 0 H hruns (fun i hi=>by cases hi) (fun i hi=>by cases hi) (fun t _=>rfl) h0 (by simp) (fun e he=>by simp at he)
    have key:=AOps.frame key
    have hlm:l.map (fun i=>(os[i]?).map (zQ E.P n os))=(l.map fun i=>ops.getD i default).map some:=by
     rw [List.map_map]
     refine List.map_congr_left fun i hi=>?_
     have hi':i<ops.length:=by
      have:∀ (l S:List Nat),Runs ops S l→∀ e∈l,e<ops.length:=by
       intro l
       induction l with
       | nil=>intro S _ e he;cases he
       | cons x l ih =>
        intro S hr e he
        rcases List.mem_cons.1 he with rfl | he
        · obtain ⟨o,ho,_⟩:=hr.2.1;exact (List.getElem?_eq_some_iff.1 ho).1
        · exact ih _ hr.2.2 e he
      exact this l [] hruns i hi
     have:ops[i]? = (os[i]?).map (zQ E.P n os):=by rw [← hc];simp
     rw [← this]
     simp [List.getD_eq_getElem?_getD,hi']
    obtain ⟨g1,g2⟩:=h1.drew
    obtain ⟨F1,H1,K1,w1,t1,q,a1,a2,a3,a4⟩:=key os l hlm K w.drew tmps T (rs.map xp) k cs g1 ((Ev.mv h1 g2).frep h2) h3
    have evA:=(g2.mono h3).trans a3
    refine ⟨.normal,F1,H1,K1,w1,t1,[],k,q,a1,a2,evA,h4.ev evA,(fun r hr=>by cases hr),.normal,.head st_region_draw ?_⟩
    rw [hsch]
    exact a4.trans (.one st_region_end)
  · cases hc
 | rangeFunc f ps a b=>simp only [yj] at hc;split at hc<;>cases hc
 | scope a=>exact absurd rfl (hns a)
 | _=>cases hc
def DOpL (E:Env) (B chain:List Nat) (Ff:AFr) (Hs:List zz):Nat→List AOper→List AV→Prop
 | _,[],[]=>True
 | i,o :: r,v :: vs=>DOp E B chain Ff Hs i o v∧DOpL E B chain Ff Hs (i+1) r vs
 | _,_,_=>False
theorem DOpL.spec {B chain:List Nat} {Ff:AFr} {Hs:List zz}:∀ {b:Nat} {ops:List AOper} {V:List AV},DOpL E B chain Ff Hs b ops V→V.length=ops.length∧∀ (i:Nat) o v,ops[i]? = some o→V[i]? = some v→DOp E B chain Ff Hs (b+i) o v
 | b,[],[],_=>⟨rfl,fun i o v h=>by simp at h⟩
 | b,o :: r,v :: vs,h=>by
  obtain ⟨h1,h2⟩:=DOpL.spec h.2
  refine ⟨by simp [h1],fun i o' v' ho hv=>?_⟩
  cases i with
  | zero=>simp at ho hv;subst ho hv;exact h.1
  | succ i =>
   have:=h2 i o' v' (by simpa using ho) (by simpa using hv)
   rw [show b+1+i=b+(i+1) by omega] at this
   exact this
 | b,[],_ :: _,h=>h.elim
 | b,_ :: _,[],h=>h.elim
end
end Go.Am
end
section
namespace Go.Am
inductive QR (E:Env) (H:zz):List AOper→AFr→AFr→Prop
 | nil (F):QR E H [] F F
 | op {o l F F' v} (hg:zK F o.guard=some true) (h:zN E.G o.op F H=some (true,v,H)) (r:QR E H l (F.set o.dst v) F'):QR E H (o :: l) F F'
 | call {o l F F' v} (f:FuncId) (xs:List Opd) (args:List AV) (hg:zK F o.guard=some true) (ho:o.op=.call f xs) (ha:xs.map (·.ev E.G F)=args) (hen:yr E.P f) (h:ACall E f args H fun v' H'=>v'=v∧H'=H) (r:QR E H l (F.set o.dst v) F'):QR E H (o :: l) F F'
 | skip {o l F F'} (hg:zK F o.guard=some false) (r:QR E H l (F.set o.dst .undef) F'):QR E H (o :: l) F F'
theorem QR.append {E:Env} {H:zz} {a b:List AOper} {F F1 F2:AFr} (h1:QR E H a F F1) (h2:QR E H b F1 F2):QR E H (a++b) F F2:=by
 induction h1 with
 | nil F=>exact h2
 | op hg h _ ih=>exact .op hg h (ih h2)
 | call f xs args hg ho ha hen h _ ih=>exact .call f xs args hg ho ha hen h (ih h2)
 | skip hg _ ih=>exact .skip hg (ih h2)
theorem QR.get {E:Env} {H:zz} {l:List AOper} {F F':AFr} (h:QR E H l F F') (t:Nat) (hd:∀ o∈l,o.dst≠some t):F'.get t=F.get t:=by
 induction h with
 | nil F=>rfl
 | @op o l F F' v hg h r ih=>rw [ih (fun o ho=>hd o (List.mem_cons_of_mem _ ho)),AFr.get_set,if_neg (hd o List.mem_cons_self)]
 | @call o l F F' v f xs args hg ho ha hen h r ih=>rw [ih (fun o ho=>hd o (List.mem_cons_of_mem _ ho)),AFr.get_set,if_neg (hd o List.mem_cons_self)]
 | @skip o l F F' hg r ih=>rw [ih (fun o ho=>hd o (List.mem_cons_of_mem _ ho)),AFr.get_set,if_neg (hd o List.mem_cons_self)]
theorem QR.vals {E:Env} {H:zz} {l:List AOper} {F F':AFr} (h:QR E H l F F') (hl:∀ (i:Nat) o,l[i]? = some o→∀ t∈o.looks,∀ (k:Nat) o',i≤k→l[k]? = some o'→o'.dst≠some t) :
 ∃ V,V.length=l.length∧F'=wJ F l V∧∀ (i:Nat) o v,l[i]? = some o→V[i]? = some v→(zK F' o.guard=some true∧zN E.G o.op F' H=some (true,v,H))∨(zK F' o.guard=some false∧v=.undef) ∨
  (zK F' o.guard=some true∧∃ f xs args,o.op=.call f xs∧xs.map (·.ev E.G F')=args∧yr E.P f∧ACall E f args H fun v' H'=>v'=v∧H'=H):=by
 induction h with
 | nil F=>exact ⟨[],rfl,rfl,fun i o v h=>by simp at h⟩
 | @op o l F F' v hg he r ih =>
  obtain ⟨V,h1,h2,h3⟩:=ih (fun i o' ho t ht k o'' hk ho''=>hl (i+1) o' (by simpa using ho) t ht (k+1) o'' (by omega) (by simpa using ho''))
  have hlk:∀ t∈o.looks,F.get t=F'.get t:=fun t ht=>by
   rw [QR.get r t (fun o' ho'=>by obtain ⟨k,hk⟩:=List.getElem?_of_mem ho';exact hl 0 o rfl t ht (k+1) o' (by omega) (by simpa using hk)),AFr.get_set,if_neg (hl 0 o rfl t ht 0 o (Nat.le_refl _) rfl)]
  refine ⟨v :: V,by simp [h1],by simp only [wJ];exact h2,fun i o' v' ho' hv'=>?_⟩
  cases i with
  | zero =>
   simp at ho' hv';subst ho' hv'
   exact .inl ⟨by rw [← yL hlk];exact hg,by rw [← y6 (xC hlk)];exact he⟩
  | succ i=>exact h3 i o' v' (by simpa using ho') (by simpa using hv')
 | @call o l F F' v f xs args hg ho ha hen he r ih =>
  obtain ⟨V,h1,h2,h3⟩:=ih (fun i o' ho t ht k o'' hk ho''=>hl (i+1) o' (by simpa using ho) t ht (k+1) o'' (by omega) (by simpa using ho''))
  have hlk:∀ t∈o.looks,F.get t=F'.get t:=fun t ht=>by
   rw [QR.get r t (fun o' ho'=>by obtain ⟨k,hk⟩:=List.getElem?_of_mem ho';exact hl 0 o rfl t ht (k+1) o' (by omega) (by simpa using hk)),AFr.get_set,if_neg (hl 0 o rfl t ht 0 o (Nat.le_refl _) rfl)]
  refine ⟨v :: V,by simp [h1],by simp only [wJ];exact h2,fun i o' v' ho' hv'=>?_⟩
  cases i with
  | zero =>
   simp at ho' hv';subst ho' hv'
   refine .inr (.inr ⟨by rw [← yL hlk];exact hg,f,xs,args,ho,?_,hen,he⟩)
   rw [← ha]
   exact (List.map_congr_left fun x hx=>xC hlk x (by rw [ho];exact hx)).symm
  | succ i=>exact h3 i o' v' (by simpa using ho') (by simpa using hv')
 | @skip o l F F' hg r ih =>
  obtain ⟨V,h1,h2,h3⟩:=ih (fun i o' ho t ht k o'' hk ho''=>hl (i+1) o' (by simpa using ho) t ht (k+1) o'' (by omega) (by simpa using ho''))
  have hlk:∀ t∈o.looks,F.get t=F'.get t:=fun t ht=>by
   rw [QR.get r t (fun o' ho'=>by obtain ⟨k,hk⟩:=List.getElem?_of_mem ho';exact hl 0 o rfl t ht (k+1) o' (by omega) (by simpa using hk)),AFr.get_set,if_neg (hl 0 o rfl t ht 0 o (Nat.le_refl _) rfl)]
  refine ⟨.undef :: V,by simp [h1],by simp only [wJ];exact h2,fun i o' v' ho' hv'=>?_⟩
  cases i with
  | zero =>
   simp at ho' hv';subst ho' hv'
   exact .inr (.inl ⟨by rw [← yL hlk];exact hg,rfl⟩)
  | succ i=>exact h3 i o' v' (by simpa using ho') (by simpa using hv')
theorem Anc.lt {ops:List AOper} {B:List Nat} (wf:WfD ops B) {k i:Nat} (h:Anc ops k i):k<i:=by
 induction h with
 | one h hk=>exact wf.aft _ _ h _ hk
 | more h hj _ ih=>exact Nat.lt_trans ih (wf.aft _ _ h _ hj)
theorem awp_drawq {E:Env} {n N:Nat} {F F':AFr} {H:zz} {ops:List AOper} {Q:zL→AFr→zz→Prop} (hm:E.P.follows .mixedOrders=true) (hwf:vI ops (vR ops [])=true) (hr:QR E H ops F F') (hq:Q .normal F' H):AWP E n N (.draw ops) F H Q:=by
 have wf:=wfDraw_spec hwf
 have hB:∀ i k,((vR ops []).getD i 0).testBit k=true→Anc ops k i:=by
  have:=v6 ops [] [] rfl (fun i k hk=>by simp at hk)
  simpa using this
 obtain ⟨V,h1,h2,h3⟩:=hr.vals (fun i o ho t ht k o' hik hk hd=>by
  have:=(hB i k (wf.look i k o o' t ho hk ht hd)).lt wf
  omega)
 refine awp_draw hm [] hwf rfl List.nodup_nil fun chain hch=>?_
 have:chain=[]:=by simpa [xv] using hch
 subst this
 refine ⟨V,[H],H,h1,rfl,rfl,fun i o v ho hv=>?_,rfl,h2 ▸ hq⟩
 rw [← h2]
 rcases h3 i o v ho hv with ⟨a,b⟩ | ⟨a,b⟩ | ⟨a,f,xs,args,b1,b2,b3,b4⟩
 · exact .look a (fun j H' hj _=>by
    cases j with
    | zero=>simp at hj;subst hj;exact ⟨true,b,rfl⟩
    | succ j=>simp at hj) rfl
 · exact .skip (.inl a) (.inl b) rfl
 · exact .call f xs args a b1 b2 b3 (fun j H' hj _=>by
    cases j with
    | zero=>simp at hj;subst hj;exact b4
    | succ j=>simp at hj) rfl
theorem AWP.weakEnd {E:Env} {n N:Nat} {F:AFr} {H:zz} {ac:ACode} {Q:zL→AFr→zz→Prop} (h:AWP E n N ac F H (fun e F' H'=>∃ Fw,(∀ t,Fw.get t=F'.get t∨Fw.get t=.undef)∧Q e Fw H')):AWP E n N ac F H Q:=by
 intro c hc K w tmps T rs k cs h1 h2 h3 h4
 obtain ⟨e,F',H',K',w',tmps',nw,todo,⟨Fw,hw,q⟩,a1,a2,a3⟩:=h c hc K w tmps T rs k cs h1 h2 h3 h4
 refine ⟨e,Fw,H',K',w',tmps',nw,todo,q,a1,⟨a2.1,fun t=>?_⟩,a3⟩
 rcases hw t with e | e
 · rw [e];exact a2.2 t
 · rw [e];exact .undef _
end Go.Am
end
section
namespace Go.Am
structure y4 where
 iLt:Int→Int→Bool
 iLe:Int→Int→Bool
 iEq:Int→Int→Bool
 iNe:Int→Int→Bool
 iAdd:IntKind→Int→Int→Int
 iSub:IntKind→Int→Int→Int
 iMul:IntKind→Int→Int→Int
 iQuo:IntKind→Int→Int→Int
 iRem:Int→Int→Int
 iShr:IntKind→Int→Int→Int
 iNeg:IntKind→Int→Int
 iCvt:IntKind→Int→Int
 iMax:Int→Int→Int
 iMin:Int→Int→Int
 bNot:Bool→Bool
 bEq:Bool→Bool→Bool
 bNe:Bool→Bool→Bool
 bAnd:Bool→Bool→Bool
 bOr:Bool→Bool→Bool
 sEq:ByteArray→ByteArray→Bool
 sNe:ByteArray→ByteArray→Bool
 sLen:ByteArray→Int
 sCat:ByteArray→ByteArray→ByteArray
 sCut:ByteArray→Int→Int→ByteArray
 sAt:ByteArray→Int→Int
 lenA:List AV→Int
 lenN:List AV→Nat
 iOf:Nat→Int
 natOf:Int→Nat
 atA:List AV→Int→AV
 atN:List AV→Nat→AV
 cutA:List AV→Int→Int→List AV
 partA:List AV→Nat→Nat→List AV
 dropA:List AV→Nat→List AV
 catA:List AV→List AV→List AV
 setA:List AV→Nat→AV→List AV
 repA:Int→AV→List AV
 putA:List AV→Nat→Nat→List AV→List AV
 idxN:Nat→Int→Nat
 addN:Nat→Nat→Nat
 subN:Nat→Int→Nat
 minN:Nat→Nat→Nat
 lenCut:Int→Int→Nat
 rowA:List AV→Int→Nat→List AV
 mOk:Bool→List (AV × AV)→AV→Bool
 mHas:Bool→List (AV × AV)→AV→Bool
 mGet:Bool→List (AV × AV)→AV→AV→AV
 mPut:Bool→List (AV × AV)→AV→AV→List (AV × AV)
 bytA:ByteArray→List AV
 encR:Int→ByteArray
namespace Wd
def iLt : Int→Int→Bool:=fun a b=>decide (a<b)
def iLe : Int→Int→Bool:=fun a b=>decide (a≤b)
def iEq : Int→Int→Bool:=fun a b=>a == b
def iNe : Int→Int→Bool:=fun a b=>a != b
def iAdd : IntKind→Int→Int→Int:=fun k a b=>k.wrap (a+b)
def iSub : IntKind→Int→Int→Int:=fun k a b=>k.wrap (a - b)
def iMul : IntKind→Int→Int→Int:=fun k a b=>k.wrap (a * b)
def iQuo : IntKind→Int→Int→Int:=fun k a b=>k.wrap (a.tdiv b)
def iRem : Int→Int→Int:=fun a b=>a.tmod b
def iShr : IntKind→Int→Int→Int:=fun k a b=>a.fdiv (2 ^ min b.toNat k.bits)
def iNeg : IntKind→Int→Int:=fun k a=>k.wrap (0 - a)
def iCvt : IntKind→Int→Int:=fun k a=>k.wrap a
def iMax : Int→Int→Int:=fun a b=>if b > a then b else a
def iMin : Int→Int→Int:=fun a b=>if b<a then b else a
def bNot : Bool→Bool:=fun a=>!a
def bEq : Bool→Bool→Bool:=fun a b=>a == b
def bNe : Bool→Bool→Bool:=fun a b=>!(a == b)
def bAnd : Bool→Bool→Bool:=fun a b=>a && b
def bOr : Bool→Bool→Bool:=fun a b=>a || b
def sEq : ByteArray→ByteArray→Bool:=fun a b=>a.toList == b.toList
def sNe : ByteArray→ByteArray→Bool:=fun a b=>!(a.toList == b.toList)
def sLen : ByteArray→Int:=fun a=>a.size
def sCat : ByteArray→ByteArray→ByteArray:=fun a b=>a++b
def sCut : ByteArray→Int→Int→ByteArray:=fun a lo hi=>a.extract lo.toNat hi.toNat
def sAt : ByteArray→Int→Int:=fun a n=>(a.data.getD n.toNat 0).toNat
def lenA : List AV→Int:=fun es=>es.length
def lenN : List AV→Nat:=fun es=>es.length
def iOf : Nat→Int:=fun n=>n
def natOf : Int→Nat:=fun n=>n.toNat
def atA : List AV→Int→AV:=fun es n=>es.getD n.toNat .undef
def atN : List AV→Nat→AV:=fun es n=>es.getD n .undef
def cutA : List AV→Int→Int→List AV:=fun es lo hi=>(es.take hi.toNat).drop lo.toNat
def partA : List AV→Nat→Nat→List AV:=fun es lo len=>(es.drop lo).take len
def dropA : List AV→Nat→List AV:=fun es lo=>es.drop lo
def catA : List AV→List AV→List AV:=fun a b=>a++b
def setA : List AV→Nat→AV→List AV:=fun es n v=>es.set n v
def repA : Int→AV→List AV:=fun n v=>List.replicate n.toNat v
def putA : List AV→Nat→Nat→List AV→List AV:=fun es lo m new=>putE es lo m new
def idxN : Nat→Int→Nat:=fun lo n=>lo+n.toNat
def addN : Nat→Nat→Nat:=fun a b=>a+b
def subN : Nat→Int→Nat:=fun a b=>a - b.toNat
def minN : Nat→Nat→Nat:=fun a b=>min a b
def lenCut : Int→Int→Nat:=fun lo hi=>hi.toNat - lo.toNat
def rowA : List AV→Int→Nat→List AV:=fun cs n k=>(cs.drop (n.toNat * k)).take k
def mOk : Bool→List (AV × AV)→AV→Bool:=fun st es x=>mOkL st es x
def mHas : Bool→List (AV × AV)→AV→Bool:=fun st es x=>mHasL st es x
def mGet : Bool→List (AV × AV)→AV→AV→AV:=fun st es x z=>mGetL st es x z
def mPut : Bool→List (AV × AV)→AV→AV→List (AV × AV):=fun st es x v=>mPutL st es x v
def bytA : ByteArray→List AV:=fun s=>byteA s
def encR : Int→ByteArray:=fun n=>Utf8.encode n
end Wd
def std : y4:=⟨Wd.iLt,Wd.iLe,Wd.iEq,Wd.iNe,Wd.iAdd,Wd.iSub,Wd.iMul,Wd.iQuo,Wd.iRem,Wd.iShr,Wd.iNeg,Wd.iCvt,Wd.iMax,Wd.iMin,Wd.bNot,Wd.bEq,Wd.bNe,Wd.bAnd,Wd.bOr,Wd.sEq,Wd.sNe,Wd.sLen,Wd.sCat,Wd.sCut,Wd.sAt,Wd.lenA,Wd.lenN,Wd.iOf,Wd.natOf,Wd.atA,Wd.atN,Wd.cutA,Wd.partA,Wd.dropA,Wd.catA,Wd.setA,Wd.repA,Wd.putA,Wd.idxN,Wd.addN,Wd.subN,Wd.minN,Wd.lenCut,Wd.rowA,Wd.mOk,Wd.mHas,Wd.mGet,Wd.mPut,Wd.bytA,Wd.encR⟩
theorem words {p:Prop} (h:∀ (iLt:Int→Int→Bool) (iLe:Int→Int→Bool) (iEq:Int→Int→Bool) (iNe:Int→Int→Bool) (iAdd:IntKind→Int→Int→Int) (iSub:IntKind→Int→Int→Int) (iMul:IntKind→Int→Int→Int) (iQuo:IntKind→Int→Int→Int) (iRem:Int→Int→Int) (iShr:IntKind→Int→Int→Int) (iNeg:IntKind→Int→Int) (iCvt:IntKind→Int→Int) (iMax:Int→Int→Int) (iMin:Int→Int→Int) (bNot:Bool→Bool) (bEq:Bool→Bool→Bool) (bNe:Bool→Bool→Bool) (bAnd:Bool→Bool→Bool) (bOr:Bool→Bool→Bool) (sEq:ByteArray→ByteArray→Bool) (sNe:ByteArray→ByteArray→Bool) (sLen:ByteArray→Int) (sCat:ByteArray→ByteArray→ByteArray) (sCut:ByteArray→Int→Int→ByteArray) (sAt:ByteArray→Int→Int) (lenA:List AV→Int) (lenN:List AV→Nat) (iOf:Nat→Int) (natOf:Int→Nat) (atA:List AV→Int→AV) (atN:List AV→Nat→AV) (cutA:List AV→Int→Int→List AV) (partA:List AV→Nat→Nat→List AV) (dropA:List AV→Nat→List AV) (catA:List AV→List AV→List AV) (setA:List AV→Nat→AV→List AV) (repA:Int→AV→List AV) (putA:List AV→Nat→Nat→List AV→List AV) (idxN:Nat→Int→Nat) (addN:Nat→Nat→Nat) (subN:Nat→Int→Nat) (minN:Nat→Nat→Nat) (lenCut:Int→Int→Nat) (rowA:List AV→Int→Nat→List AV) (mOk:Bool→List (AV × AV)→AV→Bool) (mHas:Bool→List (AV × AV)→AV→Bool) (mGet:Bool→List (AV × AV)→AV→AV→AV) (mPut:Bool→List (AV × AV)→AV→AV→List (AV × AV)) (bytA:ByteArray→List AV) (encR:Int→ByteArray),(⟨iLt,iLe,iEq,iNe,iAdd,iSub,iMul,iQuo,iRem,iShr,iNeg,iCvt,iMax,iMin,bNot,bEq,bNe,bAnd,bOr,sEq,sNe,sLen,sCat,sCut,sAt,lenA,lenN,iOf,natOf,atA,atN,cutA,partA,dropA,catA,setA,repA,putA,idxN,addN,subN,minN,lenCut,rowA,mOk,mHas,mGet,mPut,bytA,encR⟩:y4)=std→iLt=Wd.iLt→iLe=Wd.iLe→iEq=Wd.iEq→iNe=Wd.iNe→iAdd=Wd.iAdd→iSub=Wd.iSub→iMul=Wd.iMul→iQuo=Wd.iQuo→iRem=Wd.iRem→iShr=Wd.iShr→iNeg=Wd.iNeg→iCvt=Wd.iCvt→iMax=Wd.iMax→iMin=Wd.iMin→bNot=Wd.bNot→bEq=Wd.bEq→bNe=Wd.bNe→bAnd=Wd.bAnd→bOr=Wd.bOr→sEq=Wd.sEq→sNe=Wd.sNe→sLen=Wd.sLen→sCat=Wd.sCat→sCut=Wd.sCut→sAt=Wd.sAt→lenA=Wd.lenA→lenN=Wd.lenN→iOf=Wd.iOf→natOf=Wd.natOf→atA=Wd.atA→atN=Wd.atN→cutA=Wd.cutA→partA=Wd.partA→dropA=Wd.dropA→catA=Wd.catA→setA=Wd.setA→repA=Wd.repA→putA=Wd.putA→idxN=Wd.idxN→addN=Wd.addN→subN=Wd.subN→minN=Wd.minN→lenCut=Wd.lenCut→rowA=Wd.rowA→mOk=Wd.mOk→mHas=Wd.mHas→mGet=Wd.mGet→mPut=Wd.mPut→bytA=Wd.bytA→encR=Wd.encR→((∀ a b,iLt a b=(decide (a<b)))∧(∀ a b,iLe a b=(decide (a≤b)))∧(∀ a b,iEq a b=(a == b))∧(∀ a b,iNe a b=(a != b))∧(∀ k a b,iAdd k a b=(k.wrap (a+b)))∧(∀ k a b,iSub k a b=(k.wrap (a - b)))∧(∀ k a b,iMul k a b=(k.wrap (a * b)))∧(∀ k a b,iQuo k a b=(k.wrap (a.tdiv b)))∧(∀ a b,iRem a b=(a.tmod b))∧(∀ k a b,iShr k a b=(a.fdiv (2 ^ min b.toNat k.bits)))∧(∀ k a,iNeg k a=(k.wrap (0 - a)))∧(∀ k a,iCvt k a=(k.wrap a))∧(∀ a b,iMax a b=(if b > a then b else a))∧(∀ a b,iMin a b=(if b<a then b else a))∧(∀ a,bNot a=(!a))∧(∀ a b,bEq a b=(a == b))∧(∀ a b,bNe a b=(!(a == b)))∧(∀ a b,bAnd a b=(a && b))∧(∀ a b,bOr a b=(a || b))∧(∀ a b,sEq a b=(a.toList == b.toList))∧(∀ a b,sNe a b=(!(a.toList == b.toList)))∧(∀ a,sLen a=(a.size))∧(∀ a b,sCat a b=(a++b))∧(∀ a lo hi,sCut a lo hi=(a.extract lo.toNat hi.toNat))∧(∀ a n,sAt a n=((a.data.getD n.toNat 0).toNat))∧(∀ es,lenA es=(es.length))∧(∀ es,lenN es=(es.length))∧(∀ n,iOf n=(n))∧(∀ n,natOf n=(n.toNat))∧(∀ es n,atA es n=(es.getD n.toNat .undef))∧(∀ es n,atN es n=(es.getD n .undef))∧(∀ es lo hi,cutA es lo hi=((es.take hi.toNat).drop lo.toNat))∧(∀ es lo len,partA es lo len=((es.drop lo).take len))∧(∀ es lo,dropA es lo=(es.drop lo))∧(∀ a b,catA a b=(a++b))∧(∀ es n v,setA es n v=(es.set n v))∧(∀ n v,repA n v=(List.replicate n.toNat v))∧(∀ es lo m new,putA es lo m new=(putE es lo m new))∧(∀ lo n,idxN lo n=(lo+n.toNat))∧(∀ a b,addN a b=(a+b))∧(∀ a b,subN a b=(a - b.toNat))∧(∀ a b,minN a b=(min a b))∧(∀ lo hi,lenCut lo hi=(hi.toNat - lo.toNat))∧(∀ cs n k,rowA cs n k=((cs.drop (n.toNat * k)).take k))∧(∀ st es x,mOk st es x=(mOkL st es x))∧(∀ st es x,mHas st es x=(mHasL st es x))∧(∀ st es x z,mGet st es x z=(mGetL st es x z))∧(∀ st es x v,mPut st es x v=(mPutL st es x v))∧(∀ s,bytA s=(byteA s))∧(∀ n,encR n=(Utf8.encode n)))→p):p :=
 h Wd.iLt Wd.iLe Wd.iEq Wd.iNe Wd.iAdd Wd.iSub Wd.iMul Wd.iQuo Wd.iRem Wd.iShr Wd.iNeg Wd.iCvt Wd.iMax Wd.iMin Wd.bNot Wd.bEq Wd.bNe Wd.bAnd Wd.bOr Wd.sEq Wd.sNe Wd.sLen Wd.sCat Wd.sCut Wd.sAt Wd.lenA Wd.lenN Wd.iOf Wd.natOf Wd.atA Wd.atN Wd.cutA Wd.partA Wd.dropA Wd.catA Wd.setA Wd.repA Wd.putA Wd.idxN Wd.addN Wd.subN Wd.minN Wd.lenCut Wd.rowA Wd.mOk Wd.mHas Wd.mGet Wd.mPut Wd.bytA Wd.encR rfl rfl rfl rfl rfl rfl rfl rfl rfl rfl rfl rfl rfl rfl rfl rfl rfl rfl rfl rfl rfl rfl rfl rfl rfl rfl rfl rfl rfl rfl rfl rfl rfl rfl rfl rfl rfl rfl rfl rfl rfl rfl rfl rfl rfl rfl rfl rfl rfl rfl rfl ⟨fun _ _=>rfl,fun _ _=>rfl,fun _ _=>rfl,fun _ _=>rfl,fun _ _ _=>rfl,fun _ _ _=>rfl,fun _ _ _=>rfl,fun _ _ _=>rfl,fun _ _=>rfl,fun _ _ _=>rfl,fun _ _=>rfl,fun _ _=>rfl,fun _ _=>rfl,fun _ _=>rfl,fun _=>rfl,fun _ _=>rfl,fun _ _=>rfl,fun _ _=>rfl,fun _ _=>rfl,fun _ _=>rfl,fun _ _=>rfl,fun _=>rfl,fun _ _=>rfl,fun _ _ _=>rfl,fun _ _=>rfl,fun _=>rfl,fun _=>rfl,fun _=>rfl,fun _=>rfl,fun _ _=>rfl,fun _ _=>rfl,fun _ _ _=>rfl,fun _ _ _=>rfl,fun _ _=>rfl,fun _ _=>rfl,fun _ _ _=>rfl,fun _ _=>rfl,fun _ _ _ _=>rfl,fun _ _=>rfl,fun _ _=>rfl,fun _ _=>rfl,fun _ _=>rfl,fun _ _=>rfl,fun _ _ _=>rfl,fun _ _ _=>rfl,fun _ _ _=>rfl,fun _ _ _ _=>rfl,fun _ _ _ _=>rfl,fun _=>rfl,fun _=>rfl⟩
inductive Cd where
 | tt
 | and (a b:Cd)
 | dep (t:Bool) (a:Cd)
 | bb (b:Bool)
 | inB (n len:Int)
 | cut (lo hi n:Int)
 | cut2 (lo hi n c:Int)
 | nilc (a b:Int)
 | nlt (a b:Nat)
 | nle (a b:Nat)
 | neq (a b:Nat)
 | small (n bytes:Nat)
 | mk (n m:Int) (bytes:Nat)
 | nz (a:Int)
 | nn (a:Int)
 | ps (a:Int)
 | lt (a b:Int)
 | scat (a b:ByteArray)
 | one (es:List AV)
 | fit (k:Nat) (es:List AV)
 deriving Inhabited
def Cd.ok : Cd→Prop
 | .tt=>True
 | .and a b=>a.ok∧b.ok
 | .dep t a=>t=true→a.ok
 | .bb b=>b=true
 | .inB n len=>0≤n∧n<len
 | .cut lo hi n=>0≤lo∧lo≤hi∧hi≤n
 | .cut2 lo hi _n c=>0≤lo∧lo≤hi∧hi≤c∧lo<c
 | .nilc a b=>a=0∧b=0
 | .nlt a b=>a<b
 | .nle a b=>a≤b
 | .neq a b=>a=b
 | .small n bytes=>n * (bytes+1)≤35184372088832
 | .mk n m bytes=>0≤n∧n=m∧n.toNat * (bytes+1)≤35184372088832∧n≤35184372088832
 | .nz a=>a≠0
 | .nn a=>0≤a
 | .ps a=>0<a
 | .lt a b=>a<b
 | .scat a b=>a.size+b.size≤9223372036854775807
 | .one es=>es.all AV.one=true
 | .fit k es=>wI k es=true
def wR : Cd→Cd→Cd
 | .tt,b=>b
 | a,.tt=>a
 | a,b=>.and a b
theorem yq {a b:Cd} (h:(wR a b).ok):a.ok∧b.ok:=by
 unfold wR at h
 split at h
 · exact ⟨trivial,h⟩
 · exact ⟨h,trivial⟩
 · exact h
def uX (b:Bool):Cd :=
 match b with
 | true=>.tt
 | false=>.bb false
theorem xS {b:Bool} (h:(uX b).ok):b=true:=by cases b<;>first | rfl | exact h
section
variable (X:y4) (G:Nat→AV)
abbrev AnsX := Option (Cd × AV × zz)
def yP (v:AV) (H:zz):AnsX:=some (.tt,v,H)
def cmpX (op:BinOp) (a b:Int):Option Bool :=
 match op with
 | .eql=>some (X.iEq a b)
 | .neq=>some (X.iNe a b)
 | .lss=>some (X.iLt a b)
 | .leq=>some (X.iLe a b)
 | .gtr=>some (X.iLt b a)
 | .geq=>some (X.iLe b a)
 | _=>none
def binX (op:BinOp) (x y:AV) (H:zz):AnsX :=
 match x,y with
 | .val (.int k a),.val (.int k' b) =>
  match op with
  | .shr=>some (.nn b,.val (.int k (X.iShr k a b)),H)
  | _=>if k=k' then
   match op with
   | .add=>yP (.val (.int k (X.iAdd k a b))) H
   | .sub=>yP (.val (.int k (X.iSub k a b))) H
   | .mul=>yP (.val (.int k (X.iMul k a b))) H
   | .quo=>some (.nz b,.val (.int k (X.iQuo k a b)),H)
   | .rem=>some (.nz b,.val (.int k (X.iRem a b)),H)
   | _=>match cmpX X op a b with
    | some r=>yP (.val (.bool r)) H
    | none=>none
  else none
 | .val (.string a),.val (.string b)=>match op with
  | .add=>some (.scat a b,.val (.string (X.sCat a b)),H)
  | .eql=>yP (.val (.bool (X.sEq a b))) H
  | .neq=>yP (.val (.bool (X.sNe a b))) H
  | _=>none
 | _,_=>none
def eqX : List LK→List AV→List AV→Option Bool
 | [],_,_=>some true
 | .int :: ks,.val (.int k a) :: cs,.val (.int k' b) :: ds=>if k=k' then (eqX ks cs ds).map (X.bAnd (X.iEq a b)) else none
 | .bool :: ks,.val (.bool a) :: cs,.val (.bool b) :: ds=>(eqX ks cs ds).map (X.bAnd (X.bEq a b))
 | .str :: ks,.val (.string a) :: cs,.val (.string b) :: ds=>(eqX ks cs ds).map (X.bAnd (X.sEq a b))
 | _,_,_=>none
def elemsX (H:zz) (k:Nat):AV→Option (List AV)
 | .isl k' es=>if Nat.beq k k' then some es else none
 | .sl b k' lo len=>if Nat.beq k k' then (yK H b k).map fun es=>X.partA es lo len else none
 | .val (.slice none 0 0)=>some []
 | _=>none
def elemsSX (H:zz) (k:Nat) (x:AV):Option (List AV):=match x with
 | .val (.string s)=>if Nat.beq k 1 then some (X.bytA s) else none
 | x=>elemsX X H k x
def ug (H:zz) (k:Nat):AV→Cd
 | .sl b _ lo len=>match yK H b k with
  | some es=>.nle (X.addN lo len) (X.lenN es)
  | none=>.bb false
 | _=>.tt
def elems2X (H:zz) (k:Nat):AV→Option (List AV)
 | .slc b k' lo len _=>if Nat.beq k k' then (yK H b k).map fun es=>X.partA es lo len else none
 | x=>elemsX X H k x
def elems2OkX (H:zz) (k:Nat):AV→Cd
 | .sl b _ lo len | .slc b _ lo len _=>match yK H b k with
  | some es=>.nle (X.addN lo len) (X.lenN es)
  | none=>.bb false
 | _=>.tt
def opX (o:AOp) (F:AFr) (H:zz):AnsX :=
 match o with
 | .mv x=>yP (x.ev G F) H
 | .box x=>some (.one (x.ev G F).cells,.ptr H.length 0,H++[.cells (x.ev G F).cells])
 | .bslice k xs=>some (.fit k (xs.map (·.ev G F)),.sl H.length k 0 xs.length,H++[.arr k (xs.map (·.ev G F))])
 | .bin op x y=>binX X op (x.ev G F) (y.ev G F) H
 | .eqb neq x y=>match x.ev G F,y.ev G F with
  | .val (.bool a),.val (.bool b)=>yP (.val (.bool (if neq then X.bNe a b else X.bEq a b))) H
  | _,_=>none
 | .eqst neq ks x y=>match x.ev G F,y.ev G F with
  | .agg cs,.agg ds=>match eqX X ks cs ds with
   | some b=>yP (.val (.bool (if neq then X.bNot b else b))) H
   | none=>none
  | _,_=>none
 | .eqnil neq x y=>match y.ev G F,x.ev G F with
  | .val (.slice none 0 0),.val (.slice none _ _)=>yP (.val (.bool (if neq then false else true))) H
  | .val (.slice none 0 0),.slc ..=>yP (.val (.bool (if neq then true else false))) H
  | _,_=>none
 | .un op x=>match op,x.ev G F with
  | .not,.val (.bool b)=>yP (.val (.bool (X.bNot b))) H
  | .neg,.val (.int k a)=>yP (.val (.int k (X.iNeg k a))) H
  | _,_=>none
 | .cvi k x=>match x.ev G F with
  | .val (.int _ a)=>yP (.val (.int k (X.iCvt k a))) H
  | _=>none
 | .cvs x=>match x.ev G F with
  | .val (.int _ a)=>yP (.val (.string (X.encR a))) H
  | _=>none
 | .tob x=>match x.ev G F with
  | .val (.string s)=>yP (.isl 1 (X.bytA s)) H
  | _=>none
 | .ld k agg x=>match x.ev G F with
  | .iptr cs=>match wp cs 0 k agg with
   | some v=>yP v H
   | none=>none
  | .ptr b off=>match cellsOf H b with
   | some cs=>match wp cs off k agg with
    | some v=>yP v H
    | none=>none
   | none=>none
  | .eptr b k' i j=>match yK H b k' with
   | some es=>match wp (X.atN es i).cells j k agg with
    | some v=>some (.nlt i (X.lenN es),v,H)
    | none=>none
   | none=>none
  | _=>none
 | .st k x v=>match x.ev G F with
  | .ptr b off=>match cellsOf H b with
   | some cs=>some (wR (uX (Nat.ble 1 k && Nat.beq (v.ev G F).cells.length k && Nat.ble (off+k) cs.length)) (.one (v.ev G F).cells),.undef,H.set b (.cells (vS cs off (v.ev G F).cells)))
   | none=>none
  | .eptr b k' i j=>match yK H b k' with
   | some es =>
    if Nat.beq k k' && Nat.beq j 0 then
     some (wR (uX (Nat.ble 1 k && Nat.beq (v.ev G F).cells.length k)) (.and (.nlt i (X.lenN es)) (.one (v.ev G F).cells)),.undef,H.set b (.arr k' (X.setA es i (v.ev G F))))
    else
     some (wR (uX (Nat.ble 1 k && Nat.beq (v.ev G F).cells.length k && Nat.ble (j+k) k')) (.and (.nlt i (X.lenN es)) (.one (v.ev G F).cells)),.undef,H.set b (.arr k' (X.setA es i (.agg (vS (X.atN es i).cells j (v.ev G F).cells)))))
   | none=>none
  | _=>none
 | .slc k x lo hi=>match zO G F lo,zO G F hi,x.ev G F with
  | some l,some h,.isl k' es=>if Nat.beq k k' then
   some (.cut (l.getD 0) (h.getD (X.lenA es)) (X.lenA es),.isl k (X.cutA es (l.getD 0) (h.getD (X.lenA es))),H) else none
  | some l,some h,.sl b k' lo' len=>if Nat.beq k k' then
   some (.cut (l.getD 0) (h.getD (X.iOf len)) (X.iOf len),.sl b k (X.idxN lo' (l.getD 0)) (X.lenCut (l.getD 0) (h.getD (X.iOf len))),H) else none
  | some l,some h,.slc b k' lo' len cap=>if Nat.beq k k' then
   some (.cut2 (l.getD 0) (h.getD (X.iOf len)) (X.iOf len) (X.iOf cap),.slc b k (X.idxN lo' (l.getD 0)) (X.lenCut (l.getD 0) (h.getD (X.iOf len))) (X.subN cap (l.getD 0)),H) else none
  | some l,some h,.val (.slice none 0 0)=>some (.nilc (l.getD 0) (h.getD 0),.val (.slice none 0 0),H)
  | _,_,_=>none
 | .slc3 k x lo hi m=>match zO G F lo,zO G F (some hi),zO G F (some m),x.ev G F with
  | some l,some (some h),some (some mm),.sl b k' lo' len=>if Nat.beq k k' then
   some (.and (.nilc (l.getD 0) 0) (.and (.cut 0 h mm) (.and (.cut 0 mm (X.iOf len)) (.ps (X.iOf len)))),.slc b k lo' (X.natOf h) (X.natOf mm),H) else none
  | some l,some (some h),some (some mm),.val (.slice none 0 0)=>some (.and (.nilc (l.getD 0) h) (.nilc mm 0),.val (.slice none 0 0),H)
  | _,_,_,_=>none
 | .slcs x lo hi=>match zO G F lo,zO G F hi,x.ev G F with
  | some l,some h,.val (.string s)=>some (.cut (l.getD 0) (h.getD (X.sLen s)) (X.sLen s),.val (.string (X.sCut s (l.getD 0) (h.getD (X.sLen s)))),H)
  | _,_,_=>none
 | .ia k x i=>match x.ev G F,i.ev G F with
  | .isl k' es,.val (.int _ n)=>if Nat.beq k k' then some (.inB n (X.lenA es),.iptr (X.atA es n).cells,H) else none
  | .sl b k' lo len,.val (.int _ n)=>if Nat.beq k k' then some (.inB n (X.iOf len),.eptr b k (X.idxN lo n) 0,H) else none
  | .slc b k' lo len _,.val (.int _ n)=>if Nat.beq k k' then some (.inB n (X.iOf len),.eptr b k (X.idxN lo n) 0,H) else none
  | _,_=>none
 | .iaA k len x i=>match x.ev G F,i.ev G F with
  | .ptr b o,.val (.int _ n)=>some (uX (decide (0≤n∧n<(len:Int))),.ptr b (o+n.toNat * k),H)
  | .iptr cs,.val (.int _ n)=>some (.inB n (len:Int),.iptr (X.rowA cs n k),H)
  | _,_=>none
 | .ixS x i=>match x.ev G F,i.ev G F with
  | .val (.string s),.val (.int _ n)=>some (.inB n (X.sLen s),.val (.int .u8 (X.sAt s n)),H)
  | _,_=>none
 | .len x=>match x.ev G F with
  | .isl _ es=>yP (.val (.int .i64 (X.lenA es))) H
  | .sl _ _ _ len=>yP (.val (.int .i64 (X.iOf len))) H
  | .slc _ _ _ len _=>yP (.val (.int .i64 (X.iOf len))) H
  | .val (.slice _ len _)=>yP (.val (.int .i64 len)) H
  | _=>none
 | .cap x=>match x.ev G F with
  | .slc _ _ _ _ c=>yP (.val (.int .i64 (X.iOf c))) H
  | .val (.slice none _ c)=>yP (.val (.int .i64 c)) H
  | _=>none
 | .lens x=>match x.ev G F with
  | .val (.string s)=>yP (.val (.int .i64 (X.sLen s))) H
  | _=>none
 | .app k bytes s x=>match elemsSX X H k (x.ev G F) with
  | some new=>match s.ev G F with
   | .val (.slice none 0 0)=>some (wR (ug X H k (x.ev G F)) (.and (.fit k new) (.small (X.lenN new) bytes)),.sl H.length k 0 (X.lenN new),H++[.arr k new])
   | .sl b k' lo len=>match yK H b k with
    | some es=>some (wR (ug X H k (x.ev G F)) (wR (uX (Nat.beq k k')) (.and (.neq (X.addN lo len) (X.lenN es)) (.and (.fit k new) (.small (X.addN len (X.lenN new)) bytes)))),
     .sl H.length k 0 (X.addN len (X.lenN new)),H.set b .dead++[.arr k (X.catA (X.dropA es lo) new)])
    | none=>none
   | .slc b k' lo len cap=>match yK H b k with
    | some es=>some (wR (ug X H k (x.ev G F)) (wR (uX (Nat.beq k k')) (.and (.nle (X.addN lo len) (X.lenN es)) (.and (.fit k new) (.and (.small (X.addN len (X.lenN new)) bytes) (.and (.nlt cap (X.addN len (X.lenN new))) (.fit k (X.partA es lo len))))))),
     .sl H.length k 0 (X.addN len (X.lenN new)),H++[.arr k (X.catA (X.partA es lo len) new)])
    | none=>none
   | _=>none
  | none=>none
 | .copy k d s=>match elems2X X H k (s.ev G F),ownOf (d.ev G F) with
  | some new,some (b,k',lo,len)=>match yK H b k with
   | some es=>some (wR (uX (Nat.beq k k')) (wR (elems2OkX X H k (s.ev G F)) (.and (.nle (X.addN lo len) (X.lenN es)) (.fit k (X.partA new 0 (X.minN (X.lenN new) len))))),
    .val (.int .i64 (X.iOf (X.minN (X.lenN new) len))),H.set b (.arr k (X.putA es lo (X.minN (X.lenN new) len) new)))
   | none=>none
  | _,_=>none
 | .appz k bytes zero s n=>match n.ev G F,s.ev G F with
  | .val (.int .i64 m),.val (.slice none 0 0)=>some (wR (uX (zero.cells.all AV.one && Nat.beq zero.cells.length k)) (.and (.ps m) (.small (X.natOf m) bytes)),.sl H.length k 0 (X.natOf m),H++[.arr k (X.repA m zero)])
  | .val (.int .i64 m),.slc b k' lo len cap=>match yK H b k with
   | some es=>some (wR (uX (Nat.beq k k' && zero.cells.all AV.one && Nat.beq zero.cells.length k)) (.and (.and (.nle (X.addN lo len) (X.lenN es)) (.fit k (X.partA es lo len))) (.and (.ps m) (.and (.nlt cap (X.addN len (X.natOf m))) (.small (X.addN len (X.natOf m)) bytes)))),
    .sl H.length k 0 (X.addN len (X.natOf m)),H++[.arr k (X.catA (X.partA es lo len) (X.repA m zero))])
   | none=>none
  | _,_=>none
 | .mkmap=>yP (.amap H.length) (H++[.amap []])
 | .bnew t=>yP (.ptr H.length 0) (H++[.cells [.bsh t H.length false,.val (.slice none 0 0)]])
 | .mlook st zero m x ok=>match tz H (m.ev G F) with
  | some (_,es)=>some (uX (t6 st (x.ev G F) && X.mOk st es (x.ev G F)),(if ok then .tup [X.mGet st es (x.ev G F) zero,.val (.bool (X.mHas st es (x.ev G F)))] else X.mGet st es (x.ev G F) zero),H)
  | none=>none
 | .mput st m x v=>match tz H (m.ev G F) with
  | some (b,es)=>some (uX (t6 st (x.ev G F) && X.mOk st es (x.ev G F)),.undef,H.set b (.amap (X.mPut st es (x.ev G F) (v.ev G F))))
  | none=>none
 | .appb e bytes s x=>match x.ev G F with
  | .val (.string str)=>match s.ev G F with
   | .val (.slice none 0 0)=>some (.and (.nlt 0 (X.lenN (X.bytA str))) (.small (X.lenN (X.bytA str)) bytes),.bsl e H.length (X.lenN (X.bytA str)),H++[.arr 1 (X.bytA str)])
   | .bsl e' b n=>match yK H b 1 with
    | some es=>some (wR (uX (Nat.beq e' e)) (.and (.neq n (X.lenN es)) (.small (X.addN n (X.lenN (X.bytA str))) bytes)),.bsl e H.length (X.addN n (X.lenN (X.bytA str))),H.set b .dead++[.arr 1 (X.catA es (X.bytA str))])
    | none=>none
   | _=>none
  | _=>none
 | .mx xs=>match (xs.map (·.ev G F):List AV) with
  | [.val (.int k a),.val (.int k' b)]=>if k=k' then yP (.val (.int k (X.iMax a b))) H else none
  | _=>none
 | .mn xs=>match (xs.map (·.ev G F):List AV) with
  | [.val (.int k a),.val (.int k' b)]=>if k=k' then yP (.val (.int k (X.iMin a b))) H else none
  | _=>none
 | .mkslice k bytes zero l c=>match l.ev G F,c.ev G F with
  | .val (.int .i64 n),.val (.int .i64 m)=>some (wR (uX (zero.cells.all AV.one && Nat.beq zero.cells.length k)) (.mk n m bytes),.sl H.length k 0 (X.natOf n),H++[.arr k (X.repA n zero)])
  | _,_=>none
 | o=>match zN G o F H with
  | some (b,r)=>some (uX b,r)
  | none=>none
end
theorem ev1 {G:Nat→AV} {o:AOp} {F:AFr} {H H1:zz} {b:Bool} {v:AV} (h:zt G o F H=some (b,v,H1)) (hb:b=true):zN G o F H=some (true,v,H1):=by
 subst hb;exact evalOp_some1 h
theorem ev2 {G:Nat→AV} {o:AOp} {F:AFr} {H H1:zz} {b:Bool} {v:AV} (h0:zt G o F H=none) (h:zh G o F H=some (b,v,H1)) (hb:b=true):zN G o F H=some (true,v,H1):=by
 subst hb;simp only [zN,h0,h]
theorem binX_spec {G:Nat→AV} {op:BinOp} {x y:Opd} {F:AFr} {H H1:zz} {c:Cd} {v:AV} (h:binX std op (x.ev G F) (y.ev G F) H=some (c,v,H1)) (hc:c.ok):zN G (.bin op x y) F H=some (true,v,H1):=by
 have e:zt G (.bin op x y) F H=xH op (x.ev G F) (y.ev G F) H:=rfl
 unfold binX at h
 split at h
 · rename_i k a k' b hx hy
   split at h
   · simp only [Option.some.injEq,Prod.mk.injEq] at h
     obtain ⟨rfl,rfl,rfl⟩:=h
     refine ev2 (b:=decide (0≤b)) ?_ ?_ (decide_eq_true hc)
     · rw [e,hx,hy]
       unfold xH
       by_cases hk:k=k'
       · simp [hk,tA]
       · simp [hk]
     · simp only [zh,hx,hy,tV];rfl
   · rename_i hns
     split at h
     · rename_i hk
       subst hk
       cases op with
       | shr=>exact absurd rfl hns
       | quo=>simp only [Option.some.injEq,Prod.mk.injEq] at h;obtain ⟨rfl,rfl,rfl⟩:=h;exact ev1 (b:=!(b == 0)) (by rw [e,hx,hy];unfold xH;simp only [if_true];rfl) (by simpa [Cd.ok] using hc)
       | rem=>simp only [Option.some.injEq,Prod.mk.injEq] at h;obtain ⟨rfl,rfl,rfl⟩:=h;exact ev1 (b:=!(b == 0)) (by rw [e,hx,hy];unfold xH;simp only [if_true];rfl) (by simpa [Cd.ok] using hc)
       | _=>first
        | (simp [cmpX] at h;done)
        | (simp only [yP,cmpX,Option.some.injEq,Prod.mk.injEq] at h;obtain ⟨rfl,rfl,rfl⟩:=h;exact ev1 (b:=true) (by rw [e,hx,hy];unfold xH;simp only [if_true,tA,ans];rfl) rfl)
     · cases h
 · rename_i a b hx hy
   cases op with
   | add=>simp only [Option.some.injEq,Prod.mk.injEq] at h;obtain ⟨rfl,rfl,rfl⟩:=h;exact ev1 (b:=decide (a.size+b.size≤9223372036854775807)) (by rw [e,hx,hy];rfl) (decide_eq_true hc)
   | eql=>simp only [yP,Option.some.injEq,Prod.mk.injEq] at h;obtain ⟨rfl,rfl,rfl⟩:=h;exact ev1 (b:=true) (by rw [e,hx,hy];rfl) rfl
   | neq=>simp only [yP,Option.some.injEq,Prod.mk.injEq] at h;obtain ⟨rfl,rfl,rfl⟩:=h;exact ev1 (b:=true) (by rw [e,hx,hy];rfl) rfl
   | _=>simp at h
 · cases h
theorem eqX_eq : ∀ (ks:List LK) (cs ds:List AV),eqX std ks cs ds=xd ks cs ds
 | [],cs,ds=>by simp [eqX,xd]
 | k :: ks,cs,ds=>by
  unfold eqX
  split
  · contradiction
  · rename_i e
    cases e
    simp only [xd,eqX_eq]
    rfl
  · rename_i e
    cases e
    simp only [xd,eqX_eq]
    rfl
  · rename_i e
    cases e
    simp only [xd,eqX_eq]
    rfl
  · rename_i h1 h2 h3
    unfold xd
    split
    · contradiction
    · exact (h1 _ _ _ _ _ _ _ (by assumption) rfl rfl).elim
    · exact (h2 _ _ _ _ _ (by assumption) rfl rfl).elim
    · exact (h3 _ _ _ _ _ (by assumption) rfl rfl).elim
    · rfl
theorem elemsSX_eq (H:zz) (k:Nat) (v:AV):elemsSX std H k v=tv H k v:=by
 cases v with
 | val y=>cases y<;>rfl
 | _=>rfl
theorem elemsOkX_ok {H:zz} {k:Nat} {v:AV} (h:(ug std H k v).ok):xI H k v=true:=by
 cases v with
 | sl b k' lo len =>
  simp only [ug] at h
  simp only [xI]
  cases ha:yK H b k with
  | none=>rw [ha] at h;exact h
  | some es=>rw [ha] at h;exact decide_eq_true (p:=lo+len≤es.length) h
 | _=>rfl
theorem elems2X_eq (H:zz) (k:Nat) (v:AV):elems2X std H k v=elems2 H k v:=by
 cases v<;>rfl
theorem elems2OkX_ok {H:zz} {k:Nat} {v:AV} (h:(elems2OkX std H k v).ok):vp H k v=true:=by
 cases v with
 | sl b k' lo len =>
  simp only [elems2OkX] at h
  simp only [vp,xI]
  cases ha:yK H b k with
  | none=>rw [ha] at h;exact h
  | some es=>rw [ha] at h;exact decide_eq_true (p:=lo+len≤es.length) h
 | slc b k' lo len cap =>
  simp only [elems2OkX] at h
  simp only [vp]
  cases ha:yK H b k with
  | none=>rw [ha] at h;exact h
  | some es=>rw [ha] at h;exact decide_eq_true (p:=lo+len≤es.length) h
 | _=>rfl
set_option maxHeartbeats 1000000 in
theorem wM {X:y4} (hX:X=std) {G:Nat→AV} {o:AOp} {F:AFr} {H H1:zz} {c:Cd} {v:AV} (h:opX X G o F H=some (c,v,H1)) (hc:c.ok):zN G o F H=some (true,v,H1):=by
 subst hX
 have fall:(match zN G o F H with | some (b,r)=>some (uX b,r) | none=>none)=some (c,v,H1)→zN G o F H=some (true,v,H1):=by
  intro h
  split at h
  · rename_i b r he
    simp only [Option.some.injEq,Prod.mk.injEq] at h
    obtain ⟨rfl,rfl⟩:=h
    rw [he,xS hc]
  · cases h
 cases o with
 | mv x=>simp only [opX,yP,Option.some.injEq,Prod.mk.injEq] at h;obtain ⟨rfl,rfl,rfl⟩:=h;exact ev1 (b:=true) rfl rfl
 | box x=>simp only [opX,Option.some.injEq,Prod.mk.injEq] at h;obtain ⟨rfl,rfl,rfl⟩:=h;exact ev1 (b:=(x.ev G F).cells.all AV.one) rfl hc
 | bslice k xs =>
  simp only [opX,Option.some.injEq,Prod.mk.injEq] at h
  obtain ⟨rfl,rfl,rfl⟩:=h
  have:(xs.all fun x=>Nat.beq (x.ev G F).cells.length k && (x.ev G F).cells.all AV.one)=wI k (xs.map (·.ev G F)):=by simp only [wI,List.all_map];rfl
  exact ev1 (b:=wI k (xs.map (·.ev G F))) (by simp only [zt,this]) (show wI k (xs.map (·.ev G F))=true from hc)
 | bin op x y=>exact binX_spec h hc
 | bnew t=>simp only [opX,yP,Option.some.injEq,Prod.mk.injEq] at h;obtain ⟨rfl,rfl,rfl⟩:=h;exact ev2 (b:=true) rfl rfl rfl
 | appb e bytes s x =>
  simp only [opX] at h
  split at h
  · rename_i str hx
    split at h
    · rename_i hs
      simp only [Option.some.injEq,Prod.mk.injEq] at h
      obtain ⟨rfl,rfl,rfl⟩:=h
      obtain ⟨h1,h2⟩:=hc
      exact ev2 (b:=decide (0<(byteA str).length) && decide ((byteA str).length * (bytes+1)≤35184372088832)) rfl (by simp only [zh,hx,hs];rfl) (by simp only [Bool.and_eq_true,decide_eq_true_eq];exact ⟨h1,h2⟩)
    · rename_i e' b n hs
      split at h
      · rename_i es he
        simp only [Option.some.injEq,Prod.mk.injEq] at h
        obtain ⟨rfl,rfl,rfl⟩:=h
        obtain ⟨h0,h1⟩:=yq hc
        obtain ⟨h1,h2⟩:=h1
        exact ev2 (b:=decide (e'=e) && decide (n=es.length) && decide ((n+(byteA str).length) * (bytes+1)≤35184372088832)) rfl (by simp only [zh,hx,hs,he];rfl) (by simp only [Bool.and_eq_true,decide_eq_true_eq];exact ⟨⟨Nat.eq_of_beq_eq_true (xS h0),h1⟩,h2⟩)
      · cases h
    · cases h
  · cases h
 | mkmap=>simp only [opX,yP,Option.some.injEq,Prod.mk.injEq] at h;obtain ⟨rfl,rfl,rfl⟩:=h;exact ev2 (b:=true) rfl rfl rfl
 | mlook st zero m x ok =>
  simp only [opX] at h
  split at h
  · rename_i b es hm
    simp only [Option.some.injEq,Prod.mk.injEq] at h
    obtain ⟨rfl,rfl,rfl⟩:=h
    exact ev2 (b:=t6 st (x.ev G F) && mOkL st es (x.ev G F)) rfl (by simp only [zh,hm];rfl) (xS hc)
  · cases h
 | mput st m x v =>
  simp only [opX] at h
  split at h
  · rename_i b es hm
    simp only [Option.some.injEq,Prod.mk.injEq] at h
    obtain ⟨rfl,rfl,rfl⟩:=h
    exact ev2 (b:=t6 st (x.ev G F) && mOkL st es (x.ev G F)) rfl (by simp only [zh,hm];rfl) (xS hc)
  · cases h
 | eqb neq x y =>
  simp only [opX] at h
  split at h
  · rename_i a b hx hy
    simp only [yP,Option.some.injEq,Prod.mk.injEq] at h
    obtain ⟨rfl,rfl,rfl⟩:=h
    exact ev1 (b:=true) (by simp only [zt,hx,hy,ans];rfl) rfl
  · cases h
 | eqst neq ks x y =>
  simp only [opX] at h
  split at h
  · rename_i a b hx hy
    rw [eqX_eq] at h
    split at h
    · rename_i t ht
      simp only [yP,Option.some.injEq,Prod.mk.injEq] at h
      obtain ⟨rfl,rfl,rfl⟩:=h
      exact ev1 (b:=true) (by simp only [zt,hx,hy,ht,ans];rfl) rfl
    · cases h
  · cases h
 | eqnil neq x y =>
  simp only [opX] at h
  split at h
  · rename_i hy hx
    simp only [yP,Option.some.injEq,Prod.mk.injEq] at h
    obtain ⟨rfl,rfl,rfl⟩:=h
    exact ev2 (b:=true) rfl (by simp only [zh,hx,hy,tM,ans];cases neq<;>rfl) rfl
  · rename_i hy hx
    simp only [yP,Option.some.injEq,Prod.mk.injEq] at h
    obtain ⟨rfl,rfl,rfl⟩:=h
    exact ev2 (b:=true) rfl (by simp only [zh,hx,hy,tM,ans];cases neq<;>rfl) rfl
  · cases h
 | un op x =>
  simp only [opX] at h
  split at h
  · rename_i b hx
    simp only [yP,Option.some.injEq,Prod.mk.injEq] at h
    obtain ⟨rfl,rfl,rfl⟩:=h
    exact ev1 (b:=true) (by simp only [zt,hx,ans];rfl) rfl
  · rename_i k a hx
    simp only [yP,Option.some.injEq,Prod.mk.injEq] at h
    obtain ⟨rfl,rfl,rfl⟩:=h
    exact ev1 (b:=true) (by simp only [zt,hx,ans];rfl) rfl
  · cases h
 | cvi k x =>
  simp only [opX] at h
  split at h
  · rename_i k' a hx
    simp only [yP,Option.some.injEq,Prod.mk.injEq] at h
    obtain ⟨rfl,rfl,rfl⟩:=h
    exact ev1 (b:=true) (by simp only [zt,hx,ans];rfl) rfl
  · cases h
 | cvs x =>
  simp only [opX] at h
  split at h
  · rename_i k' a hx
    simp only [yP,Option.some.injEq,Prod.mk.injEq] at h
    obtain ⟨rfl,rfl,rfl⟩:=h
    exact ev1 (b:=true) (by simp only [zt,hx,ans];rfl) rfl
  · cases h
 | tob x =>
  simp only [opX] at h
  split at h
  · rename_i s hx
    simp only [yP,Option.some.injEq,Prod.mk.injEq] at h
    obtain ⟨rfl,rfl,rfl⟩:=h
    exact ev1 (b:=true) (by simp only [zt,hx,ans];rfl) rfl
  · cases h
 | ld k agg x =>
  simp only [opX] at h
  split at h
  · rename_i cs hx
    split at h
    · rename_i u hu
      simp only [yP,Option.some.injEq,Prod.mk.injEq] at h
      obtain ⟨rfl,rfl,rfl⟩:=h
      exact ev1 (b:=true) (by simp only [zt,hx,hu,ans]) rfl
    · cases h
  · rename_i b off hx
    split at h
    · rename_i cs hcs
      split at h
      · rename_i u hu
        simp only [yP,Option.some.injEq,Prod.mk.injEq] at h
        obtain ⟨rfl,rfl,rfl⟩:=h
        exact ev1 (b:=true) (by simp only [zt,hx,hcs,hu,ans]) rfl
      · cases h
    · cases h
  · rename_i b k' i j hx
    split at h
    · rename_i es hes
      split at h
      · rename_i u hu
        simp only [Option.some.injEq,Prod.mk.injEq] at h
        obtain ⟨rfl,rfl,rfl⟩:=h
        exact ev1 (b:=decide (i<es.length)) (by simp only [zt,hx,hes,show wp (es.getD i .undef).cells j k agg=some u from hu]) (decide_eq_true hc)
      · cases h
    · cases h
  · cases h
 | st k x w =>
  simp only [opX] at h
  split at h
  · rename_i b off hx
    split at h
    · rename_i cs hcs
      simp only [Option.some.injEq,Prod.mk.injEq] at h
      obtain ⟨rfl,rfl,rfl⟩:=h
      obtain ⟨h1,h2⟩:=yq hc
      exact ev1 (b:=(Nat.ble 1 k && Nat.beq (w.ev G F).cells.length k && Nat.ble (off+k) cs.length) && (w.ev G F).cells.all AV.one) (by simp only [zt,hx,hcs]) (by rw [xS h1];exact h2)
    · cases h
  · rename_i b k' i j hx
    split at h
    · rename_i es hes
      split at h
      · rename_i hif
        simp only [Option.some.injEq,Prod.mk.injEq] at h
        obtain ⟨rfl,rfl,rfl⟩:=h
        obtain ⟨h1,h2,h3⟩:=yq hc
        have h1:=xS h1
        simp only [Bool.and_eq_true] at h1
        refine ev1 (b:=Nat.ble 1 k && decide (i<es.length) && Nat.beq (w.ev G F).cells.length k && (w.ev G F).cells.all AV.one) (by simp only [zt,hx,hes,if_pos hif];rfl) ?_
        simp only [Bool.and_eq_true,decide_eq_true_eq]
        exact ⟨⟨⟨h1.1,h2⟩,h1.2⟩,h3⟩
      · rename_i hif
        simp only [Option.some.injEq,Prod.mk.injEq] at h
        obtain ⟨rfl,rfl,rfl⟩:=h
        obtain ⟨h1,h2,h3⟩:=yq hc
        have h1:=xS h1
        simp only [Bool.and_eq_true] at h1
        refine ev1 (b:=Nat.ble 1 k && decide (i<es.length) && Nat.beq (w.ev G F).cells.length k && Nat.ble (j+k) k' && (w.ev G F).cells.all AV.one) (by simp only [zt,hx,hes,if_neg hif];rfl) ?_
        simp only [Bool.and_eq_true,decide_eq_true_eq]
        exact ⟨⟨⟨⟨h1.1.1,h2⟩,h1.1.2⟩,h1.2⟩,h3⟩
    · cases h
  · cases h
 | slc k x lo hi =>
  simp only [opX] at h
  split at h
  · rename_i l g k' es hl hg hx
    split at h
    · rename_i hk
      simp only [Option.some.injEq,Prod.mk.injEq] at h
      obtain ⟨rfl,rfl,rfl⟩:=h
      refine ev1 (b:=?_) (by simp only [zt,hl,hg,hx,if_pos hk];rfl) ?_
      exact decide_eq_true hc
    · cases h
  · rename_i l g b k' lo' len hl hg hx
    split at h
    · rename_i hk
      simp only [Option.some.injEq,Prod.mk.injEq] at h
      obtain ⟨rfl,rfl,rfl⟩:=h
      refine ev1 (b:=?_) (by simp only [zt,hl,hg,hx,if_pos hk];rfl) ?_
      exact decide_eq_true hc
    · cases h
  · rename_i l g b k' lo' len cap hl hg hx
    split at h
    · rename_i hk
      simp only [Option.some.injEq,Prod.mk.injEq] at h
      obtain ⟨rfl,rfl,rfl⟩:=h
      refine ev2 (b:=?_) (by simp only [zt,hl,hg,hx]) (by simp only [zh,hl,hg,hx,if_pos hk];rfl) ?_
      exact decide_eq_true hc
    · cases h
  · rename_i l g hl hg hx
    simp only [Option.some.injEq,Prod.mk.injEq] at h
    obtain ⟨rfl,rfl,rfl⟩:=h
    refine ev1 (b:=?_) (by simp only [zt,hl,hg,hx];rfl) ?_
    exact decide_eq_true hc
  · cases h
 | slc3 k x lo hi m =>
  simp only [opX] at h
  split at h
  · rename_i l g mm b k' lo' len hl hg hm hx
    split at h
    · rename_i hk
      simp only [Option.some.injEq,Prod.mk.injEq] at h
      obtain ⟨rfl,rfl,rfl⟩:=h
      obtain ⟨⟨h1,_⟩,⟨_,h2,h3⟩,⟨_,_,h4⟩,h5⟩:=hc
      refine ev2 (b:=?_) rfl (by simp only [zh,hl,hg,hm,hx,if_pos hk];rfl) ?_
      exact decide_eq_true ⟨h1,h2,h3,h4,h5⟩
    · cases h
  · rename_i l g mm hl hg hm hx
    simp only [Option.some.injEq,Prod.mk.injEq] at h
    obtain ⟨rfl,rfl,rfl⟩:=h
    obtain ⟨⟨h1,h2⟩,h3,_⟩:=hc
    refine ev2 (b:=?_) rfl (by simp only [zh,hl,hg,hm,hx];rfl) ?_
    exact decide_eq_true ⟨h1,h2,h3⟩
  · cases h
 | slcs x lo hi =>
  simp only [opX] at h
  split at h
  · rename_i l g s hl hg hx
    simp only [Option.some.injEq,Prod.mk.injEq] at h
    obtain ⟨rfl,rfl,rfl⟩:=h
    refine ev1 (b:=?_) (by simp only [zt,hl,hg,hx];rfl) ?_
    exact decide_eq_true hc
  · cases h
 | ia k x i =>
  simp only [opX] at h
  split at h
  · rename_i k' es kk n hx hi
    split at h
    · rename_i hk
      simp only [Option.some.injEq,Prod.mk.injEq] at h
      obtain ⟨rfl,rfl,rfl⟩:=h
      refine ev1 (b:=?_) (by simp only [zt,hi,hx,if_pos hk];rfl) ?_
      exact decide_eq_true hc
    · cases h
  · rename_i b k' lo len kk n hx hi
    split at h
    · rename_i hk
      simp only [Option.some.injEq,Prod.mk.injEq] at h
      obtain ⟨rfl,rfl,rfl⟩:=h
      refine ev1 (b:=?_) (by simp only [zt,hi,hx,if_pos hk];rfl) ?_
      exact decide_eq_true hc
    · cases h
  · rename_i b k' lo len cap kk n hx hi
    split at h
    · rename_i hk
      simp only [Option.some.injEq,Prod.mk.injEq] at h
      obtain ⟨rfl,rfl,rfl⟩:=h
      refine ev2 (b:=?_) (by simp only [zt,hi,hx]) (by simp only [zh,hi,hx,if_pos hk];rfl) ?_
      exact decide_eq_true hc
    · cases h
  · cases h
 | iaA k len x i =>
  simp only [opX] at h
  split at h
  · rename_i b o kk n hx hi
    simp only [Option.some.injEq,Prod.mk.injEq] at h
    obtain ⟨rfl,rfl,rfl⟩:=h
    exact ev1 (b:=decide (0≤n∧n<(len:Int))) (by simp only [zt,hx,hi]) (xS hc)
  · rename_i cs kk n hx hi
    simp only [Option.some.injEq,Prod.mk.injEq] at h
    obtain ⟨rfl,rfl,rfl⟩:=h
    refine ev1 (b:=?_) (by simp only [zt,hi,hx];rfl) ?_
    exact decide_eq_true hc
  · cases h
 | ixS x i =>
  simp only [opX] at h
  split at h
  · rename_i s kk n hx hi
    simp only [Option.some.injEq,Prod.mk.injEq] at h
    obtain ⟨rfl,rfl,rfl⟩:=h
    refine ev1 (b:=?_) (by simp only [zt,hi,hx];rfl) ?_
    exact decide_eq_true hc
  · cases h
 | len x =>
  simp only [opX] at h
  split at h
  · rename_i k es hx
    simp only [yP,Option.some.injEq,Prod.mk.injEq] at h
    obtain ⟨rfl,rfl,rfl⟩:=h
    exact ev1 (b:=true) (by simp only [zt,hx,ans];rfl) rfl
  · rename_i b k lo len hx
    simp only [yP,Option.some.injEq,Prod.mk.injEq] at h
    obtain ⟨rfl,rfl,rfl⟩:=h
    exact ev1 (b:=true) (by simp only [zt,hx,ans];rfl) rfl
  · rename_i b k lo len cap hx
    simp only [yP,Option.some.injEq,Prod.mk.injEq] at h
    obtain ⟨rfl,rfl,rfl⟩:=h
    exact ev2 (b:=true) (by simp only [zt,hx]) (by simp only [zh,hx,ans];rfl) rfl
  · rename_i a n c hx
    simp only [yP,Option.some.injEq,Prod.mk.injEq] at h
    obtain ⟨rfl,rfl,rfl⟩:=h
    exact ev1 (b:=true) (by simp only [zt,hx,ans]) rfl
  · cases h
 | cap x =>
  simp only [opX] at h
  split at h
  · rename_i b k lo len cap hx
    simp only [yP,Option.some.injEq,Prod.mk.injEq] at h
    obtain ⟨rfl,rfl,rfl⟩:=h
    exact ev2 (b:=true) rfl (by simp only [zh,hx,ans];rfl) rfl
  · rename_i n c hx
    simp only [yP,Option.some.injEq,Prod.mk.injEq] at h
    obtain ⟨rfl,rfl,rfl⟩:=h
    exact ev2 (b:=true) rfl (by simp only [zh,hx,ans]) rfl
  · cases h
 | lens x =>
  simp only [opX] at h
  split at h
  · rename_i s hx
    simp only [yP,Option.some.injEq,Prod.mk.injEq] at h
    obtain ⟨rfl,rfl,rfl⟩:=h
    exact ev1 (b:=true) (by simp only [zt,hx,ans];rfl) rfl
  · cases h
 | app k bytes s x =>
  simp only [opX,elemsSX_eq] at h
  split at h
  · rename_i new hne
    split at h
    · rename_i hs
      simp only [Option.some.injEq,Prod.mk.injEq] at h
      obtain ⟨rfl,rfl,rfl⟩:=h
      obtain ⟨h1,h2,h3⟩:=yq hc
      refine ev1 (b:=xI H k (x.ev G F) && new.all (fun e=>Nat.beq e.cells.length k && e.cells.all AV.one) && decide (new.length * (bytes+1)≤35184372088832)) (by simp only [zt,hne,hs];rfl) ?_
      simp only [Bool.and_eq_true,decide_eq_true_eq]
      exact ⟨⟨elemsOkX_ok h1,h2⟩,h3⟩
    · rename_i b k' lo len hs
      split at h
      · rename_i es hes
        simp only [Option.some.injEq,Prod.mk.injEq] at h
        obtain ⟨rfl,rfl,rfl⟩:=h
        obtain ⟨h1,h2⟩:=yq hc
        obtain ⟨h2,h3,h4,h5⟩:=yq h2
        refine ev1 (b:=xI H k (x.ev G F) && Nat.beq k k' && decide (lo+len=es.length) && new.all (fun e=>Nat.beq e.cells.length k && e.cells.all AV.one) && decide ((len+new.length) * (bytes+1)≤35184372088832)) (by simp only [zt,hne,hs,hes];rfl) ?_
        simp only [Bool.and_eq_true,decide_eq_true_eq]
        exact ⟨⟨⟨⟨elemsOkX_ok h1,xS h2⟩,h3⟩,h4⟩,h5⟩
      · cases h
    · rename_i b k' lo len cap hs
      split at h
      · rename_i es hes
        simp only [Option.some.injEq,Prod.mk.injEq] at h
        obtain ⟨rfl,rfl,rfl⟩:=h
        obtain ⟨h1,h2⟩:=yq hc
        obtain ⟨h2,h3,h4,h5,h6,h7⟩:=yq h2
        refine ev1 (b:=xI H k (x.ev G F) && Nat.beq k k' && decide (lo+len≤es.length) && new.all (fun e=>Nat.beq e.cells.length k && e.cells.all AV.one) && decide ((len+new.length) * (bytes+1)≤35184372088832) && decide (cap<len+new.length) && ((es.drop lo).take len).all (fun e=>Nat.beq e.cells.length k && e.cells.all AV.one)) (by simp only [zt,hne,hs,hes];rfl) ?_
        simp only [Bool.and_eq_true,decide_eq_true_eq]
        exact ⟨⟨⟨⟨⟨⟨elemsOkX_ok h1,xS h2⟩,h3⟩,h4⟩,h5⟩,h6⟩,h7⟩
      · cases h
    · cases h
  · cases h
 | copy k d s =>
  simp only [opX,elems2X_eq] at h
  split at h
  · rename_i new b k' lo len hne hown
    split at h
    · rename_i es hes
      simp only [Option.some.injEq,Prod.mk.injEq] at h
      obtain ⟨rfl,rfl,rfl⟩:=h
      obtain ⟨h1,h2⟩:=yq hc
      obtain ⟨h2,h3,h4⟩:=yq h2
      refine ev2 (b:=Nat.beq k k' && vp H k (s.ev G F) && decide (lo+len≤es.length) && wI k (new.take (min new.length len))) rfl (by simp only [zh,hne,hown,hes];rfl) ?_
      simp only [Bool.and_eq_true,decide_eq_true_eq]
      exact ⟨⟨⟨xS h1,elems2OkX_ok h2⟩,h3⟩,h4⟩
    · cases h
  · cases h
 | appz k bytes zero s n =>
  simp only [opX] at h
  split at h
  · rename_i m hn hs
    simp only [Option.some.injEq,Prod.mk.injEq] at h
    obtain ⟨rfl,rfl,rfl⟩:=h
    obtain ⟨h1,h2,h3⟩:=yq hc
    have h1:=xS h1
    simp only [Bool.and_eq_true] at h1
    refine ev2 (b:=decide (0<m∧m.toNat * (bytes+1)≤35184372088832) && zero.cells.all AV.one && Nat.beq zero.cells.length k) rfl (by simp only [zh,hn,hs];rfl) ?_
    simp only [Bool.and_eq_true,decide_eq_true_eq]
    exact ⟨⟨⟨h2,h3⟩,h1.1⟩,h1.2⟩
  · rename_i m b k' lo len cap hn hs
    split at h
    · rename_i es hes
      simp only [Option.some.injEq,Prod.mk.injEq] at h
      obtain ⟨rfl,rfl,rfl⟩:=h
      obtain ⟨h1,⟨h2,h3⟩,h4,h5,h6⟩:=yq hc
      have h1:=xS h1
      simp only [Bool.and_eq_true] at h1
      refine ev2 (b:=Nat.beq k k' && decide (lo+len≤es.length) && wI k ((es.drop lo).take len) && decide (0<m∧(cap:Int)<len+m∧(len+m.toNat) * (bytes+1)≤35184372088832) && zero.cells.all AV.one && Nat.beq zero.cells.length k) rfl (by simp only [zh,hn,hs,hes];rfl) ?_
      simp only [Bool.and_eq_true,decide_eq_true_eq]
      have h4':0<m:=h4
      have h5':cap<len+m.toNat:=h5
      exact ⟨⟨⟨⟨⟨h1.1.1,h2⟩,h3⟩,h4,by omega,h6⟩,h1.1.2⟩,h1.2⟩
    · cases h
  · cases h
 | mx xs =>
  simp only [opX] at h
  split at h
  · rename_i k a k' b hx
    split at h
    · rename_i hk
      simp only [yP,Option.some.injEq,Prod.mk.injEq] at h
      obtain ⟨rfl,rfl,rfl⟩:=h
      exact ev1 (b:=true) (by simp only [zt,hx,if_pos hk,ans];rfl) rfl
    · cases h
  · cases h
 | mn xs =>
  simp only [opX] at h
  split at h
  · rename_i k a k' b hx
    split at h
    · rename_i hk
      simp only [yP,Option.some.injEq,Prod.mk.injEq] at h
      obtain ⟨rfl,rfl,rfl⟩:=h
      exact ev1 (b:=true) (by simp only [zt,hx,if_pos hk,ans];rfl) rfl
    · cases h
  · cases h
 | mkslice k bytes zero l m =>
  simp only [opX] at h
  split at h
  · rename_i n n' hx hy
    simp only [Option.some.injEq,Prod.mk.injEq] at h
    obtain ⟨rfl,rfl,rfl⟩:=h
    obtain ⟨h1,h2⟩:=yq hc
    have h1:=xS h1
    simp only [Bool.and_eq_true] at h1
    refine ev1 (b:=decide (0≤n∧n=n'∧n.toNat * (bytes+1)≤35184372088832∧n≤35184372088832) && zero.cells.all AV.one && Nat.beq zero.cells.length k) (by simp only [zt,hx,hy];rfl) ?_
    simp only [Bool.and_eq_true,decide_eq_true_eq]
    exact ⟨⟨h2,h1.1⟩,h1.2⟩
  · cases h
 | _=>exact fall h
inductive KI where
 | seq (a:ACode)
 | block (id:Nat)
inductive Cur where
 | code (a:ACode)
 | ops (l:List AOper)
 | out (e:zL)
abbrev Cfg := Cd × Cur × List KI × AFr × zz
def tI (c:Cd) (r:Cfg):Cfg :=
 match r with
 | (c',r)=>(wR c c',r)
def tB (t:Bool):Cd→Cd
 | .tt=>.tt
 | c=>.dep t c
theorem uF {t:Bool} {c:Cd} (h:(tB t c).ok) (ht:t=true):c.ok:=by
 cases c<;>first | trivial | exact h ht
def inSeg (d:Nat) (b:Bool) (o:AOper):Bool :=
 match o.guard with
 | some (d',b')=>Nat.beq d d' && (b == b') && ye o.op && (match o.dst with | some e=>!Nat.beq e d | none=>true)
 | none=>false
def tZ (d:Nat) (b:Bool):List AOper→Option (List AOper × AOper × List AOper)
 | []=>none
 | o :: l=>if inSeg d b o then (tZ d b l).map fun r=>(o :: r.1,r.2) else
  match o.guard,o.op with
  | none,.pick (.t d') _ _=>if Nat.beq d d' then some ([],o,l) else none
  | _,_=>none
def uw (X:y4) (G:Nat→AV):List AOper→AFr→zz→Option (Cd × AFr)
 | [],F,_=>some (.tt,F)
 | o :: l,F,H=>match opX X G o.op F H with
  | some (c,v,_)=>match uw X G l (F.set o.dst v) H with
   | some (c',F')=>some (wR c c',F')
   | none=>none
  | none=>none
def zB : List AOper→AFr→AFr
 | [],F=>F
 | o :: l,F=>zB l (F.set o.dst .undef)
def vw (X:y4) (G:Nat→AV) (b t:Bool) (o:AOper) (F1 _F:AFr):Option AV :=
 match b,o.op with
 | true,.pick _ x (.c (.val (.bool false)))=>match x.ev G F1 with
  | .val (.bool x1)=>some (.val (.bool (X.bAnd t x1)))
  | _=>none
 | false,.pick _ (.c (.val (.bool true))) x=>match x.ev G F1 with
  | .val (.bool x1)=>some (.val (.bool (X.bOr t x1)))
  | _=>none
 | _,_=>none
def tE (F:AFr) (o:AOper):Bool:=o.op.opds.all fun x=>match x with
 | .t i=>match F.get i with
  | .undef=>false
  | _=>true
 | _=>true
def vK (X:y4) (G:Nat→AV):List AOper→AFr→zz→Option (Cd × AFr)
 | [],F,_=>some (.tt,F)
 | o :: l,F,H=>if tE F o then match opX X G o.op F H with
  | some (c,v,_)=>match vK X G l (F.set o.dst v) H with
   | some (c',F')=>some (wR c c',F')
   | none=>none
  | none=>none else none
def t7 (X:y4) (G:Nat→AV):Nat→List AOper→AFr→zz→Option (Cd × AFr)
 | 0,_,_,_=>none
 | _+1,[],F,_=>some (.tt,F)
 | f+1,o :: l,F,H =>
  match o.guard with
  | none=>if ye o.op && tE F o then match opX X G o.op F H with
   | some (c,v,_)=>match t7 X G f l (F.set o.dst v) H with
    | some (c',F')=>some (wR c c',F')
    | none=>none
   | none=>none else none
  | some (d,b)=>match F.get d with
   | .val (.bool t)=>match tZ d b (o :: l) with
    | some (seg,p,rest)=>match vK X G seg F H with
     | some (c,F1)=>match vw X G b t p F1 F with
      | some v=>match t7 X G f rest ((zB seg F).set p.dst v) H with
       | some (c',F')=>some (wR (tB (cond b t (X.bNot t)) c) c',F')
       | none=>none
      | none=>none
     | none=>none
    | none=>none
   | _=>none
def exec (X:y4) (G:Nat→AV):Nat→Nat→Cur→List KI→AFr→zz→Cfg
 | 0,_,cur,k,F,H=>(.tt,cur,k,F,H)
 | f+1,g,.out e,k,F,H =>
  match k with
  | []=>(.tt,.out e,[],F,H)
  | .seq b :: k=>match e with
   | .normal=>exec X G f g (.code b) k F H
   | e=>exec X G f g (.out e) k F H
  | .block id :: k=>match e with
   | .exit i=>exec X G f g (.out (cond (Nat.beq i id) .normal (.exit i))) k F H
   | e=>exec X G f g (.out e) k F H
 | f+1,g,.code a,k,F,H =>
  match a with
  | .skip=>exec X G f g (.out .normal) k F H
  | .ret=>exec X G f g (.out .ret) k F H
  | .exit i=>exec X G f g (.out (.exit i)) k F H
  | .seq a b=>exec X G f g (.code a) (.seq b :: k) F H
  | .block id a=>exec X G f g (.code a) (.block id :: k) F H
  | .reg ops=>exec X G f g (.ops ops) k F H
  | .cond c a b=>match g with
   | 0=>(.tt,.code (.cond c a b),k,F,H)
   | g+1=>match c.ev G F with
    | .val (.bool t)=>exec X G f g (.code (cond t a b)) k F H
    | _=>(.tt,.code (.cond c a b),k,F,H)
  | .draw ops=>cond (vI ops (vR ops [])) (match t7 X G 1000 ops F H with
   | some (c,F1)=>tI c (exec X G f g (.out .normal) k F1 H)
   | none=>(.tt,.code (.draw ops),k,F,H)) (.tt,.code (.draw ops),k,F,H)
  | a=>(.tt,.code a,k,F,H)
 | f+1,g,.ops [],k,F,H=>exec X G f g (.out .normal) k F H
 | f+1,g,.ops (o :: l),k,F,H =>
  match o.guard with
  | none=>match opX X G o.op F H with
   | some (c,v,H1)=>tI c (exec X G f g (.ops l) k (F.set o.dst v) H1)
   | none=>(.tt,.ops (o :: l),k,F,H)
  | some (d,b)=>match F.get d with
   | .val (.bool t)=>match tZ d b (o :: l) with
    | some (seg,p,rest)=>match uw X G seg F H with
     | some (c,F1)=>match vw X G b t p F1 F with
      | some v=>tI (tB (cond b t (X.bNot t)) c) (exec X G f g (.ops rest) k ((zB seg F).set p.dst v) H)
      | none=>(.tt,.ops (o :: l),k,F,H)
     | none=>(.tt,.ops (o :: l),k,F,H)
    | none=>match g with
     | 0=>(.tt,.ops (o :: l),k,F,H)
     | g+1=>cond (t == b)
      (match opX X G o.op F H with
      | some (c,v,H1)=>tI c (exec X G f g (.ops l) k (F.set o.dst v) H1)
      | none=>(.tt,.ops (o :: l),k,F,H))
      (exec X G f g (.ops l) k (F.set o.dst (skV o)) H)
   | .val v=>match isU v with
    | true=>exec X G f g (.ops l) k (F.set o.dst (skV o)) H
    | false=>(.tt,.ops (o :: l),k,F,H)
   | _=>(.tt,.ops (o :: l),k,F,H)
theorem evalBin_quiet {op:BinOp} {x y:AV} {H H1:zz} {c:Bool} {v:AV} (h:xH op x y H=some (c,v,H1)):H1=H:=by
 unfold xH at h
 split at h
 · split at h
   · cases op<;>simp [ans,tA] at h<;>exact h.2.2.symm
   · cases h
 · cases op<;>simp [ans] at h<;>exact h.2.2.symm
 · cases h
theorem quiet_heap1 {G:Nat→AV} {o:AOp} {F:AFr} {H H1:zz} {c:Bool} {v:AV} (hq:ye o=true) (h:zt G o F H=some (c,v,H1)):H1=H:=by
 cases o with
 | bin op x y=>exact evalBin_quiet h
 | _=>first | (cases hq;done) | (simp only [zt,ans] at h;(repeat' split at h)<;>first | (simp only [Option.some.injEq,Prod.mk.injEq] at h;exact h.2.2.symm) | cases h)
theorem quiet_heap2 {G:Nat→AV} {o:AOp} {F:AFr} {H H1:zz} {c:Bool} {v:AV} (hq:ye o=true) (h:zh G o F H=some (c,v,H1)):H1=H:=by
 cases o with
 | bin op x y =>
  cases op with
  | shr =>
   simp only [zh,tV] at h
   split at h
   · simp only [Option.some.injEq,Prod.mk.injEq] at h;exact h.2.2.symm
   · cases h
  | _=>simp [zh] at h
 | _=>first | (cases hq;done) | (simp only [zh,ans] at h;(repeat' split at h)<;>first | (simp only [Option.some.injEq,Prod.mk.injEq] at h;exact h.2.2.symm) | cases h)
theorem wd {G:Nat→AV} {o:AOp} {F:AFr} {H H1:zz} {c:Bool} {v:AV} (hq:ye o=true) (h:zN G o F H=some (c,v,H1)):H1=H:=by
 rcases evalOp_some2 h with h | h
 · exact quiet_heap1 hq h
 · exact quiet_heap2 hq h
section
variable (E:Env) (n N:Nat) (Q:zL→AFr→zz→Prop)
def uP : List KI→zL→AFr→zz→Prop
 | [],e,F,H=>Q e F H
 | .seq b :: k,e,F,H=>match e with
  | .normal=>AWP E n N b F H (uP k)
  | e=>uP k e F H
 | .block id :: k,e,F,H=>match e with
  | .exit i=>if i=id then uP k .normal F H else uP k (.exit i) F H
  | e=>uP k e F H
def Holds : Cur→List KI→AFr→zz→Prop
 | .code a,k,F,H=>AWP E n N a F H (uP E n N Q k)
 | .ops l,k,F,H=>AOps E n N l F H (uP E n N Q k .normal)
 | .out e,k,F,H=>uP E n N Q k e F H
end
section
variable {E:Env} {n N:Nat} {Q:zL→AFr→zz→Prop}
structure tc (d:Nat) (b:Bool) (o:AOper):Prop where
 guard:o.guard=some (d,b)
 quiet:ye o.op=true
 dst:o.dst≠some d
theorem inSeg_spec {d:Nat} {b:Bool} {o:AOper} (h:inSeg d b o=true):tc d b o:=by
 unfold inSeg at h
 cases hg:o.guard with
 | none=>rw [hg] at h;cases h
 | some p =>
  obtain ⟨d',b'⟩:=p
  rw [hg] at h
  simp only [Bool.and_eq_true] at h
  obtain ⟨⟨⟨h1,h2⟩,h3⟩,h4⟩:=h
  have hd:=Nat.eq_of_beq_eq_true h1
  have hb:b=b':=by simpa using h2
  subst hd hb
  exact ⟨hg,h3,fun hd=>by rw [hd] at h4;simp [Nat.beq_refl] at h4⟩
theorem segOf_spec {d:Nat} {b:Bool}:∀ {l:List AOper} {seg:List AOper} {p:AOper} {rest:List AOper},tZ d b l=some (seg,p,rest)→l=seg++p :: rest∧(∀ o∈seg,tc d b o)∧p.guard=none∧∃ x y,p.op=.pick (.t d) x y
 | [],_,_,_,h=>by cases h
 | o :: l,seg,p,rest,h=>by
  unfold tZ at h
  by_cases hi:inSeg d b o=true
  · rw [if_pos hi] at h
    obtain ⟨⟨seg',p',rest'⟩,hr,he⟩:=Option.map_eq_some_iff.1 h
    cases he
    obtain ⟨e1,e2,e3⟩:=segOf_spec hr
    refine ⟨by rw [e1];rfl,fun o' ho'=>?_,e3⟩
    rcases List.mem_cons.1 ho' with rfl | ho'
    · exact inSeg_spec hi
    · exact e2 o' ho'
  · rw [if_neg hi] at h
    split at h
    · rename_i d' x y hg hop
      by_cases hc:Nat.beq d d'=true
      · rw [if_pos hc] at h
        have hd:=Nat.eq_of_beq_eq_true hc
        subst hd
        cases h
        exact ⟨rfl,(fun o ho=>by cases ho),hg,x,y,hop⟩
      · rw [if_neg hc] at h;cases h
    · cases h
theorem AOps.weak {l:List AOper} {F Fb:AFr} {H:zz} {Q:AFr→zz→Prop} (hw:∀ t,Fb.get t=F.get t∨Fb.get t=.undef) (h:AOps E n N l Fb H Q):AOps E n N l F H Q:=by
 intro ops li hl K w tmps T ds k cs h1 h2 h3
 refine h ops li hl K w tmps T ds k cs h1 ⟨h2.1,fun t=>?_⟩ h3
 rcases hw t with e | e
 · rw [e];exact h2.2 t
 · rw [e];exact .undef _
theorem seg_run {X:y4} (hXs:X=std) {d:Nat} {b t:Bool} (htb:(t == b)=true) {rest:List AOper} {H:zz} {Q:AFr→zz→Prop} {F1:AFr}:∀ (seg:List AOper) (F:AFr) (c:Cd),(∀ o∈seg,tc d b o)→F.get d=.val (.bool t)→uw X E.G seg F H=some (c,F1)→c.ok →
 (F1.get d=.val (.bool t)→AOps E n N rest F1 H Q)→AOps E n N (seg++rest) F H Q
 | [],F,c,_,hd,hr,hc,h=>by simp [uw] at hr;obtain ⟨_,rfl⟩:=hr;exact h hd
 | o :: seg,F,c,hs,hd,hr,hc,h=>by
  obtain ⟨g1,g2,g3⟩:=hs o List.mem_cons_self
  simp only [uw] at hr
  split at hr
  · rename_i c0 v H1 hop
    split at hr
    · rename_i c' F' hr'
      simp only [Option.some.injEq,Prod.mk.injEq] at hr
      obtain ⟨e1,e2⟩:=hr
      subst e1 e2
      have hc:=yq hc
      have hop:=wM hXs hop hc.1
      have hH:=wd g2 hop
      subst hH
      exact xm (by rw [g1];simp only [zK,hd,htb]) hop rfl (seg_run hXs htb seg _ _ (fun o' ho'=>hs o' (List.mem_cons_of_mem _ ho')) (by rw [AFr.get_set,if_neg g3];exact hd) hr' hc.2 h)
    · cases hr
  · cases hr
theorem seg_skip {d:Nat} {b t:Bool} (htb:(t == b)=false) {rest:List AOper} {H:zz} {Q:AFr→zz→Prop}:∀ (seg:List AOper) (F:AFr),(∀ o∈seg,tc d b o)→F.get d=.val (.bool t) →
 ((zB seg F).get d=.val (.bool t)→AOps E n N rest (zB seg F) H Q)→AOps E n N (seg++rest) F H Q
 | [],F,_,hd,h=>h hd
 | o :: seg,F,hs,hd,h=>by
  obtain ⟨g1,g2,g3⟩:=hs o List.mem_cons_self
  exact aops_skip (by rw [g1];simp only [zK,hd,htb]) (seg_skip htb seg _ (fun o' ho'=>hs o' (List.mem_cons_of_mem _ ho')) (by rw [AFr.get_set,if_neg g3];exact hd) h)
theorem seg_weak {X:y4} {G:Nat→AV} {H:zz} {F1:AFr}:∀ (seg:List AOper) (F Fb:AFr) (c:Cd),(∀ t,Fb.get t=F.get t∨Fb.get t=.undef)→uw X G seg F H=some (c,F1)→∀ t,(zB seg Fb).get t=F1.get t∨(zB seg Fb).get t=.undef
 | [],F,Fb,c,hw,hr,t=>by simp [uw] at hr;obtain ⟨_,rfl⟩:=hr;exact hw t
 | o :: seg,F,Fb,c,hw,hr,t=>by
  simp only [uw] at hr
  split at hr
  · rename_i c0 v H1 hop
    split at hr
    · rename_i c' F' hr'
      simp only [Option.some.injEq,Prod.mk.injEq] at hr
      obtain ⟨e1,e2⟩:=hr
      subst e2
      refine seg_weak seg _ _ _ (fun t=>?_) hr' t
      rw [AFr.get_set,AFr.get_set]
      split
      · exact .inr rfl
      · exact hw t
    · cases hr
  · cases hr
theorem wd_bAnd (a b:Bool):std.bAnd a b=(a && b):=rfl
theorem wd_bOr (a b:Bool):std.bOr a b=(a || b):=rfl
theorem seg_sound {X:y4} (hXs:X=std) {d:Nat} {b t:Bool} {ops seg rest:List AOper} {p:AOper} {F F1:AFr} {H:zz} {Q:AFr→zz→Prop} {c:Cd} {v:AV} (hd:F.get d=.val (.bool t)) (hs:tZ d b ops=some (seg,p,rest)) (hr:uw X E.G seg F H=some (c,F1)) (hv:vw X E.G b t p F1 F=some v)
 (hc:(tB (cond b t (X.bNot t)) c).ok) (h:AOps E n N rest ((zB seg F).set p.dst v) H Q):AOps E n N ops F H Q:=by
 obtain ⟨rfl,hok,hpg,x,y,hop⟩:=segOf_spec hs
 have hweak:∀ t',((zB seg F).set p.dst v).get t'=(F1.set p.dst v).get t'∨((zB seg F).set p.dst v).get t'=.undef:=by
  intro t'
  rw [AFr.get_set,AFr.get_set]
  split
  · exact .inl rfl
  · exact seg_weak seg F F c (fun t=>.inl rfl) hr t'
 unfold vw at hv
 rw [hop] at hv
 cases b with
 | true =>
  cases t with
  | true =>
   have hc':c.ok:=uF hc (by subst hXs;rfl)
   refine seg_run hXs rfl seg F c hok hd hr hc' fun hd1=>xm (by rw [hpg];rfl) (c:=true) (v:=v) (H1:=H) ?_ rfl (AOps.weak hweak h)
   rw [hop]
   split at hv
   · rename_i x' y' heq
     cases heq
     split at hv
     · rename_i x1 hX
       cases hv
       simp only [zN,zt,show Opd.ev E.G F1 (.t d)=.val (.bool true) from hd1,ans,cond_true,hX,hXs,wd_bAnd,Bool.true_and]
     · cases hv
   · contradiction
   · cases hv
  | false =>
   refine seg_skip rfl seg F hok hd fun hd1=>xm (by rw [hpg];rfl) (c:=true) (v:=v) (H1:=H) ?_ rfl h
   rw [hop]
   split at hv
   · rename_i x' y' heq
     cases heq
     split at hv
     · rename_i x1 hX
       cases hv
       simp only [zN,zt,Opd.ev,hd1,ans,cond_false,hXs,wd_bAnd,Bool.false_and]
     · cases hv
   · contradiction
   · cases hv
 | false =>
  cases t with
  | false =>
   have hc':c.ok:=uF hc (by subst hXs;rfl)
   refine seg_run hXs rfl seg F c hok hd hr hc' fun hd1=>xm (by rw [hpg];rfl) (c:=true) (v:=v) (H1:=H) ?_ rfl (AOps.weak hweak h)
   rw [hop]
   split at hv
   · contradiction
   · rename_i x' y' heq
     cases heq
     split at hv
     · rename_i x1 hX
       cases hv
       simp only [zN,zt,show Opd.ev E.G F1 (.t d)=.val (.bool false) from hd1,ans,cond_false,hX,hXs,wd_bOr,Bool.false_or]
     · cases hv
   · cases hv
  | true =>
   refine seg_skip rfl seg F hok hd fun hd1=>xm (by rw [hpg];rfl) (c:=true) (v:=v) (H1:=H) ?_ rfl h
   rw [hop]
   split at hv
   · contradiction
   · rename_i x' y' heq
     cases heq
     split at hv
     · rename_i x1 hX
       cases hv
       simp only [zN,zt,Opd.ev,hd1,ans,cond_true,hXs,wd_bOr,Bool.true_or]
     · cases hv
   · cases hv
def Weak (F F0:AFr):Prop:=∀ t,F.get t=F0.get t∨F.get t=.undef
theorem Weak.set {F F0:AFr} (h:Weak F F0) (d:Option Nat) (v:AV):Weak (F.set d v) (F0.set d v):=fun t=>by
 rw [AFr.get_set,AFr.get_set];split
 · exact .inl rfl
 · exact h t
theorem Weak.ev {G:Nat→AV} {F F0:AFr} (h:Weak F F0) {o:AOper} (hd:tE F o=true):∀ x∈o.op.opds,x.ev G F=x.ev G F0:=by
 intro x hx
 have:=List.all_eq_true.1 hd x hx
 cases x with
 | t i =>
  rcases h i with e | e
  · exact e
  · simp only [e] at this;cases this
 | _=>rfl
theorem Weak.val {G:Nat→AV} {F F0:AFr} (h:Weak F F0) {x:Opd} {v:Value} (hx:x.ev G F=.val v):x.ev G F0=.val v:=by
 cases x with
 | t i =>
  rcases h i with e | e
  · exact e.symm.trans hx
  · have hx':F.get i=.val v:=hx
    rw [e] at hx';cases hx'
 | _=>exact hx
theorem segD_run {X:y4} (hXs:X=std) {E:Env} {H:zz} {d:Nat} {b t:Bool} (htb:(t == b)=true):∀ (seg:List AOper) (F F0 F1:AFr) (c:Cd),(∀ o∈seg,tc d b o)→F0.get d=.val (.bool t)→Weak F F0→vK X E.G seg F H=some (c,F1)→c.ok →
 ∃ F1',QR E H seg F0 F1'∧Weak F1 F1'∧F1'.get d=.val (.bool t)
 | [],F,F0,F1,c,_,hd,hw,hr,hc=>by simp [vK] at hr;obtain ⟨_,rfl⟩:=hr;exact ⟨F0,.nil _,hw,hd⟩
 | o :: seg,F,F0,F1,c,hs,hd,hw,hr,hc=>by
  obtain ⟨g1,g2,g3⟩:=hs o List.mem_cons_self
  unfold vK at hr
  by_cases hdf:tE F o=true
  · rw [if_pos hdf] at hr
    split at hr
    · rename_i c0 v H1 hop
      split at hr
      · rename_i c' F' hr'
        simp only [Option.some.injEq,Prod.mk.injEq] at hr
        obtain ⟨e1,e2⟩:=hr
        subst e1 e2
        have hc:=yq hc
        have hop:=wM hXs hop hc.1
        rw [y6 (hw.ev hdf)] at hop
        have hH:=wd g2 hop
        rw [hH] at hop
        obtain ⟨F1',a1,a2,a3⟩:=segD_run hXs htb seg _ (F0.set o.dst v) _ _ (fun o' ho'=>hs o' (List.mem_cons_of_mem _ ho')) (by rw [AFr.get_set,if_neg g3];exact hd) (hw.set _ _) hr' hc.2
        exact ⟨F1',.op (by rw [g1];simp only [zK,hd,htb]) hop a1,a2,a3⟩
      · cases hr
    · cases hr
  · rw [if_neg hdf] at hr;cases hr
theorem segD_skip {E:Env} {H:zz} {d:Nat} {b t:Bool} (htb:(t == b)=false):∀ (seg:List AOper) (F F0:AFr),(∀ o∈seg,tc d b o)→F0.get d=.val (.bool t)→Weak F F0 →
 QR E H seg F0 (zB seg F0)∧Weak (zB seg F) (zB seg F0)∧(zB seg F0).get d=.val (.bool t)
 | [],F,F0,_,hd,hw=>⟨.nil _,hw,hd⟩
 | o :: seg,F,F0,hs,hd,hw=>by
  obtain ⟨g1,g2,g3⟩:=hs o List.mem_cons_self
  obtain ⟨a1,a2,a3⟩:=segD_skip (E:=E) (H:=H) htb seg (F.set o.dst .undef) (F0.set o.dst .undef) (fun o' ho'=>hs o' (List.mem_cons_of_mem _ ho')) (by rw [AFr.get_set,if_neg g3];exact hd) (hw.set _ _)
  exact ⟨.skip (by rw [g1];simp only [zK,hd,htb]) a1,a2,a3⟩
theorem segD_weak {X:y4} {G:Nat→AV} {H:zz} {F1:AFr}:∀ (seg:List AOper) (F Fb:AFr) (c:Cd),Weak Fb F→vK X G seg F H=some (c,F1)→Weak (zB seg Fb) F1
 | [],F,Fb,c,hw,hr=>by simp [vK] at hr;obtain ⟨_,rfl⟩:=hr;exact hw
 | o :: seg,F,Fb,c,hw,hr=>by
  unfold vK at hr
  by_cases hdf:tE F o=true
  · rw [if_pos hdf] at hr
    split at hr
    · rename_i c0 v H1 hop
      split at hr
      · rename_i c' F' hr'
        simp only [Option.some.injEq,Prod.mk.injEq] at hr
        obtain ⟨e1,e2⟩:=hr
        subst e2
        refine segD_weak seg _ _ _ (fun t=>?_) hr'
        rw [AFr.get_set,AFr.get_set]
        split
        · exact .inr rfl
        · exact hw t
      · cases hr
    · cases hr
  · rw [if_neg hdf] at hr;cases hr
theorem Weak.trans {F F1 F2:AFr} (a:Weak F F1) (b:Weak F1 F2):Weak F F2:=fun t=>by
 rcases a t with e | e
 · rw [e];exact b t
 · exact .inr e
theorem chosen_run {X:y4} (hXs:X=std) {G:Nat→AV} {H:zz} {b t:Bool} {p:AOper} {d:Nat} {x y:Opd} {F1 F F1':AFr} {v:AV} (htb:(t == b)=true) (hop:p.op=.pick (.t d) x y) (hv:vw X G b t p F1 F=some v) (hw:Weak F1 F1') (hd:F1'.get d=.val (.bool t)):zN G p.op F1' H=some (true,v,H):=by
 unfold vw at hv
 rw [hop] at hv ⊢
 cases b with
 | true =>
  cases t with
  | true =>
   split at hv
   · rename_i x' y' heq
     cases heq
     split at hv
     · rename_i x1 hX
       cases hv
       simp only [zN,zt,show Opd.ev G F1' (.t d)=.val (.bool true) from hd,ans,cond_true,hw.val hX,hXs,wd_bAnd,Bool.true_and]
     · cases hv
   · contradiction
   · cases hv
  | false=>cases htb
 | false =>
  cases t with
  | true=>cases htb
  | false =>
   split at hv
   · contradiction
   · rename_i x' y' heq
     cases heq
     split at hv
     · rename_i x1 hX
       cases hv
       simp only [zN,zt,show Opd.ev G F1' (.t d)=.val (.bool false) from hd,ans,cond_false,hw.val hX,hXs,wd_bOr,Bool.false_or]
     · cases hv
   · cases hv
theorem chosen_skip {X:y4} (hXs:X=std) {G:Nat→AV} {H:zz} {b t:Bool} {p:AOper} {d:Nat} {x y:Opd} {F1 F F1':AFr} {v:AV} (htb:(t == b)=false) (hop:p.op=.pick (.t d) x y) (hv:vw X G b t p F1 F=some v) (hd:F1'.get d=.val (.bool t)):zN G p.op F1' H=some (true,v,H):=by
 unfold vw at hv
 rw [hop] at hv ⊢
 cases b with
 | true =>
  cases t with
  | false =>
   split at hv
   · rename_i x' y' heq
     cases heq
     split at hv
     · rename_i x1 hX
       cases hv
       simp only [zN,zt,Opd.ev,hd,ans,cond_false,hXs,wd_bAnd,Bool.false_and]
     · cases hv
   · contradiction
   · cases hv
  | true=>cases htb
 | false =>
  cases t with
  | false=>cases htb
  | true =>
   split at hv
   · contradiction
   · rename_i x' y' heq
     cases heq
     split at hv
     · rename_i x1 hX
       cases hv
       simp only [zN,zt,Opd.ev,hd,ans,cond_true,hXs,wd_bOr,Bool.true_or]
     · cases hv
   · cases hv
theorem runQ_sound {X:y4} (hXs:X=std) {E:Env} {H:zz}:∀ (f:Nat) (l:List AOper) (F F0 Fs:AFr) (c:Cd),Weak F F0→t7 X E.G f l F H=some (c,Fs)→c.ok→∃ F1,QR E H l F0 F1∧Weak Fs F1
 | 0,l,F,F0,Fs,c,hw,hr,hc=>by cases hr
 | f+1,[],F,F0,Fs,c,hw,hr,hc=>by simp [t7] at hr;obtain ⟨_,rfl⟩:=hr;exact ⟨F0,.nil _,hw⟩
 | f+1,o :: l,F,F0,Fs,c,hw,hr,hc=>by
  unfold t7 at hr
  split at hr
  · rename_i hg
    by_cases hdf:(ye o.op && tE F o)=true
    · rw [if_pos hdf] at hr
      simp only [Bool.and_eq_true] at hdf
      split at hr
      · rename_i c0 v H1 hop
        split at hr
        · rename_i c' F' hr'
          simp only [Option.some.injEq,Prod.mk.injEq] at hr
          obtain ⟨e1,e2⟩:=hr
          subst e1 e2
          have hc:=yq hc
          have hop:=wM hXs hop hc.1
          rw [y6 (hw.ev hdf.2)] at hop
          have hH:=wd hdf.1 hop
          rw [hH] at hop
          obtain ⟨F1,a1,a2⟩:=runQ_sound hXs f l _ (F0.set o.dst v) _ _ (hw.set _ _) hr' hc.2
          exact ⟨F1,.op (by rw [hg];rfl) hop a1,a2⟩
        · cases hr
      · cases hr
    · rw [if_neg hdf] at hr;cases hr
  · rename_i d b hg
    split at hr
    · rename_i t ht
      split at hr
      · rename_i seg p rest hseg
        split at hr
        · rename_i c0 F1 hrun
          split at hr
          · rename_i v hv
            split at hr
            · rename_i c' F' hr'
              simp only [Option.some.injEq,Prod.mk.injEq] at hr
              obtain ⟨e1,e2⟩:=hr
              subst e1 e2
              have hc:=yq hc
              obtain ⟨e,hok,hpg,x,y,hop⟩:=segOf_spec hseg
              rw [e]
              have ht0:F0.get d=.val (.bool t):=hw.val (G:=E.G) (x:=.t d) ht
              have fin:∀ F1',QR E H seg F0 F1'→Weak ((zB seg F).set p.dst v) (F1'.set p.dst v)→zN E.G p.op F1' H=some (true,v,H)→∃ F2,QR E H (seg++p :: rest) F0 F2∧Weak F' F2:=by
               intro F1' q1 q2 q3
               obtain ⟨F2,b1,b2⟩:=runQ_sound hXs f rest _ _ _ _ q2 hr' hc.2
               exact ⟨F2,q1.append (.op (by rw [hpg];rfl) q3 b1),b2⟩
              cases htb:(t == b) with
              | true =>
               have hc0:c0.ok:=uF hc.1 (by subst hXs;cases b<;>cases t<;>first | rfl | cases htb)
               obtain ⟨F1',a1,a2,a3⟩:=segD_run hXs htb seg F F0 F1 c0 hok ht0 hw hrun hc0
               exact fin F1' a1 (((segD_weak seg F F c0 (fun t=>.inl rfl) hrun).trans a2).set _ _) (chosen_run hXs htb hop hv a2 a3)
              | false =>
               obtain ⟨a1,a2,a3⟩:=segD_skip (E:=E) (H:=H) htb seg F F0 hok ht0 hw
               exact fin _ a1 (a2.set _ _) (chosen_skip hXs htb hop hv a3)
            · cases hr
          · cases hr
        · cases hr
      · cases hr
    · cases hr
theorem zH (hm:E.P.follows .mixedOrders=true) {X:y4} (hXs:X=std):∀ (f g:Nat) (cur:Cur) (k:List KI) (F:AFr) (H:zz) {c:Cd} {cur':Cur} {k':List KI} {F':AFr} {H':zz},exec X E.G f g cur k F H=(c,cur',k',F',H')→c.ok→Holds E n N Q cur' k' F' H'→Holds E n N Q cur k F H
 | 0,g,cur,k,F,H,c,cur',k',F',H',he,hc,h=>by simp only [exec] at he;cases he;exact h
 | f+1,g,.out e,k,F,H,c,cur',k',F',H',he,hc,h=>by
  cases k with
  | nil=>simp only [exec] at he;cases he;exact h
  | cons x k =>
   cases x with
   | seq b =>
    cases e with
    | normal=>exact zH hm hXs f g (.code b) k F H he hc h
    | exit i=>exact zH hm hXs f g (.out (.exit i)) k F H he hc h
    | ret=>exact zH hm hXs f g (.out .ret) k F H he hc h
   | block id =>
    cases e with
    | normal=>exact zH hm hXs f g (.out .normal) k F H he hc h
    | ret=>exact zH hm hXs f g (.out .ret) k F H he hc h
    | exit i =>
     have:=zH hm hXs f g _ k F H he hc h
     show (if i=id then uP E n N Q k .normal F H else uP E n N Q k (.exit i) F H)
     by_cases hi:i=id
     · subst hi;rw [if_pos rfl];rw [Nat.beq_refl] at this;exact this
     · have hb:Nat.beq i id=false:=by cases hbb:Nat.beq i id with
        | false=>rfl
        | true=>exact absurd (Nat.eq_of_beq_eq_true hbb) hi
       rw [if_neg hi];rw [hb] at this;exact this
 | f+1,g,.code a,k,F,H,c,cur',k',F',H',he,hc,h=>by
  cases a with
  | skip=>exact awp_skip (zH hm hXs f g (.out .normal) k F H he hc h)
  | ret=>exact awp_ret (zH hm hXs f g (.out .ret) k F H he hc h)
  | exit i=>exact awp_exit (zH hm hXs f g (.out (.exit i)) k F H he hc h)
  | seq a b=>exact awp_seq (AWP.mono (zH hm hXs f g (.code a) (.seq b :: k) F H he hc h) fun e F H h=>by cases e<;>exact h)
  | block id a=>exact awp_block (AWP.mono (zH hm hXs f g (.code a) (.block id :: k) F H he hc h) fun e F H h=>by cases e<;>exact h)
  | reg ops=>exact awp_reg (zH hm hXs f g (.ops ops) k F H he hc h)
  | cond x a b =>
   cases g with
   | zero=>simp only [exec] at he;cases he;exact h
   | succ g =>
    simp only [exec] at he
    split at he
    · rename_i t ht
      refine awp_cond ht ?_
      have:=zH hm hXs f g _ k F H he hc h
      cases t<;>exact this
    · cases he;exact h
  | draw ops =>
   simp only [exec] at he
   cases hwf:vI ops (vR ops []) with
   | false=>rw [hwf,cond_false] at he;cases he;exact h
   | true =>
    rw [hwf,cond_true] at he
    split at he
    · rename_i c0 F1 hr
      cases hx:exec X E.G f g (.out .normal) k F1 H with
      | mk c1 r =>
       obtain ⟨cur1,k1,F1',H1'⟩:=r
       rw [hx] at he
       simp only [tI,Prod.mk.injEq] at he
       obtain ⟨e1,rfl,rfl,rfl,rfl⟩:=he
       subst e1
       have hc:=yq hc
       obtain ⟨F2,q1,q2⟩:=runQ_sound hXs 1000 ops F F F1 c0 (fun t=>.inl rfl) hr hc.1
       have key:=zH hm hXs f g (.out .normal) k F1 H hx hc.2 h
       exact AWP.weakEnd (awp_drawq hm hwf q1 ⟨F1,q2,key⟩)
    · cases he;exact h
  | _=>simp only [exec] at he;cases he;exact h
 | f+1,g,.ops [],k,F,H,c,cur',k',F',H',he,hc,h=>aops_nil (zH hm hXs f g (.out .normal) k F H he hc h)
 | f+1,g,.ops (o :: l),k,F,H,c,cur',k',F',H',he,hc,h=>by
  have step:∀ {g:Nat} {c0:Cd} {v:AV} {H1:zz},zK F o.guard=some true→opX X E.G o.op F H=some (c0,v,H1)→tI c0 (exec X E.G f g (.ops l) k (F.set o.dst v) H1)=(c,cur',k',F',H')→Holds E n N Q (.ops (o :: l)) k F H:=by
   intro g c0 v H1 hw ho he
   cases hx:exec X E.G f g (.ops l) k (F.set o.dst v) H1 with
   | mk c1 r =>
    obtain ⟨cur1,k1,F1,H1'⟩:=r
    rw [hx] at he
    simp only [tI,Prod.mk.injEq] at he
    obtain ⟨e1,rfl,rfl,rfl,rfl⟩:=he
    subst e1
    have hc:=yq hc
    exact xm hw (wM hXs ho hc.1) rfl (zH hm hXs f g (.ops l) k _ _ hx hc.2 h)
  simp only [exec] at he
  split at he
  · rename_i hg
    split at he
    · rename_i c0 v H1 ho
      exact step (by rw [hg];rfl) ho he
    · cases he;exact h
  · rename_i d b hg
    split at he
    · rename_i t ht
      split at he
      · rename_i seg p rest hseg
        split at he
        · rename_i c0 F1 hrun
          split at he
          · rename_i v hv
            cases hx:exec X E.G f g (.ops rest) k ((zB seg F).set p.dst v) H with
            | mk c1 r =>
             obtain ⟨cur1,k1,F1',H1'⟩:=r
             rw [hx] at he
             simp only [tI,Prod.mk.injEq] at he
             obtain ⟨e1,rfl,rfl,rfl,rfl⟩:=he
             subst e1
             have hc:=yq hc
             exact seg_sound hXs ht hseg hrun hv hc.1 (zH hm hXs f g (.ops rest) k _ _ hx hc.2 h)
          · cases he;exact h
        · cases he;exact h
      · split at he
        · cases he;exact h
        · by_cases htb:(t == b)=true
          · rw [htb,cond_true] at he
            split at he
            · rename_i c0 v H1 ho
              exact step (by rw [hg];simp only [zK,ht,htb]) ho he
            · cases he;exact h
          · have htb:(t == b)=false:=by cases hx:(t == b)<;>simp_all
            rw [htb,cond_false] at he
            exact aops_skipq (by rw [hg];simp only [zK,ht,htb]) (zH hm hXs f _ (.ops l) k _ _ he hc h)
    · rename_i v hnv hv
      split at he
      · rename_i hu
        exact aops_skipuq hg (by rw [hv,isU_spec hu]) (zH hm hXs f _ (.ops l) k _ _ he hc h)
      · cases he;exact h
    · cases he;exact h
theorem go (hm:E.P.follows .mixedOrders=true) {X:y4} (hXs:X=std) (g:Nat) {cur:Cur} {k:List KI} {F:AFr} {H:zz} {c:Cd} {cur':Cur} {k':List KI} {F':AFr} {H':zz} (he:exec X E.G 1000 g cur k F H=(c,cur',k',F',H')) (hc:c.ok) (h:Holds E n N Q cur' k' F' H'):Holds E n N Q cur k F H :=
 zH hm hXs 1000 g cur k F H he hc h
end
end Go.Am
end
section
namespace Go.Am
section
variable {E:Env} {n N:Nat} {Q:zL→AFr→zz→Prop} {k:List KI} {F:AFr} {H:zz}
theorem uD {x:Opd} {a b:ACode} {t:Bool} (hx:x.ev E.G F=.val (.bool t)) (h1:t=true→Holds E n N Q (.code a) k F H) (h2:t=false→Holds E n N Q (.code b) k F H):Holds E n N Q (.code (.cond x a b)) k F H:=by
 refine awp_cond hx ?_
 cases t
 · exact h2 rfl
 · exact h1 rfl
theorem Ent.same {F':AFr} (h:∀ t,F.get t=F'.get t):Ent E n N F H F' H:=fun K w tmps h1 h2 h3=>⟨K,h1,⟨h2.1,fun t=>by rw [← h t];exact h2.2 t⟩,Ev.refl _ _ _ _ h3⟩
theorem AOps.ent {l:List AOper} {F':AFr} {H':zz} {Q:AFr→zz→Prop} (he:Ent E n N F H F' H') (h:AOps E n N l F' H' Q):AOps E n N l F H Q:=by
 intro ops li hl K w tmps T ds k cs h1 h2 h3
 obtain ⟨K1,g1,g2,ev1⟩:=he K w tmps h1 h2 h3
 obtain ⟨F2,H2,K2,w2,tmps2,q,a,b,ev2,x⟩:=h ops li hl K1 w tmps T ds k cs g1 g2 ev1.len
 exact ⟨F2,H2,K2,w2,tmps2,q,a,b,ev1.trans ev2,x⟩
theorem zj {o:AOper} {l:List AOper} {d:Nat} {b t:Bool} (_hg:o.guard=some (d,b)) (hx:F.get d=.val (.bool t)) (h1:t=true→Holds E n N Q (.ops (o :: l)) k ((d,.val (.bool true)) :: F) H) (h2:t=false→Holds E n N Q (.ops (o :: l)) k ((d,.val (.bool false)) :: F) H) :
 Holds E n N Q (.ops (o :: l)) k F H:=by
 have same:Ent E n N F H ((d,.val (.bool t)) :: F) H:=Ent.same fun t'=>by
  have:=AFr.get_set F (some d) (.val (.bool t)) t'
  simp only [AFr.set] at this
  rw [this]
  split
  · rename_i h;cases h;exact hx
  · rfl
 refine AOps.ent same ?_
 cases t
 · exact h2 rfl
 · exact h1 rfl
theorem xM {cur:ACode} {F':AFr} {H':zz} (he:Ent E n N F H F' H') (h:Holds E n N Q (.code cur) k F' H'):Holds E n N Q (.code cur) k F H:=AWP.ent he h
theorem on_pcall {o:AOper} {l:List AOper} {f:FuncId} {xs:List Opd} {args:List AV} {v:AV} (hg:o.guard=none) (ho:o.op=.call f xs) (ha:xs.map (·.ev E.G F)=args) (hc:PCall E f args v) (hcl:AV.closedL args=true)
 (h:Holds E n N Q (.ops l) k (F.set o.dst v) H):Holds E n N Q (.ops (o :: l)) k F H :=
 aops_pcall (by rw [hg];rfl) ho ha hc hcl h
theorem on_call {o:AOper} {l:List AOper} {f:FuncId} {xs:List Opd} {args:List AV} {R:AV→zz→Prop} (hg:o.guard=none) (ho:o.op=.call f xs) (ha:xs.map (·.ev E.G F)=args) (hen:yr E.P f) (hc:ACall E f args H R)
 (h:∀ v H1,R v H1→Holds E n N Q (.ops l) k (F.set o.dst v) H1):Holds E n N Q (.ops (o :: l)) k F H :=
 xL (by rw [hg];rfl) ho ha hen hc h
def LoopQ (E:Env) (n N:Nat) {ι:Type} (inv:ι→AFr × zz) (μ:ι→Nat) (x:ι) (k:List KI) (Q:zL→AFr→zz→Prop) (e:zL) (F':AFr) (H':zz):Prop :=
 match e with
 | .normal=>∃ x',μ x'<μ x∧Ent E n N F' H' (inv x').1 (inv x').2
 | e=>uP E n N Q k e F' H'
theorem on_loop {ι:Type} {a:ACode} (inv:ι→AFr × zz) (μ:ι→Nat) (x0:ι) (h0:Ent E n N F H (inv x0).1 (inv x0).2) (round:∀ x,Holds E n N (LoopQ E n N inv μ x k Q) (.code a) [] (inv x).1 (inv x).2):Holds E n N Q (.code (.loop a)) k F H :=
 awp_loop inv μ x0 h0 fun x=>AWP.mono (round x) fun e F H h=>by cases e<;>exact h
def LoopP (E:Env) (n N:Nat) {ι:Type} (inv:ι→AFr × zz) (good:ι→Prop) (μ:ι→Nat) (x:ι) (k:List KI) (Q:zL→AFr→zz→Prop) (e:zL) (F':AFr) (H':zz):Prop :=
 match e with
 | .normal=>∃ x',good x'∧μ x'<μ x∧Ent E n N F' H' (inv x').1 (inv x').2
 | e=>uP E n N Q k e F' H'
theorem zf {ι:Type} {a:ACode} (inv:ι→AFr × zz) (good:ι→Prop) (μ:ι→Nat) (x0:ι) (g0:good x0) (h0:Ent E n N F H (inv x0).1 (inv x0).2)
 (round:∀ x,good x→Holds E n N (LoopP E n N inv good μ x k Q) (.code a) [] (inv x).1 (inv x).2):Holds E n N Q (.code (.loop a)) k F H :=
 on_loop (ι:={ x:ι // good x }) (fun x=>inv x.1) (fun x=>μ x.1) ⟨x0,g0⟩ h0 fun x=>AWP.mono (round x.1 x.2) fun e F H h=>by
  cases e with
  | normal=>obtain ⟨x',g,m,he⟩:=h;exact ⟨⟨x',g⟩,m,he⟩
  | _=>exact h
theorem zw {ι:Type} {inv:ι→AFr × zz} {good:ι→Prop} {μ:ι→Nat} {x:ι} (x':ι) (hg:good x') (hm:μ x'<μ x) (he:Ent E n N F H (inv x').1 (inv x').2):Holds E n N (LoopP E n N inv good μ x k Q) (.out .normal) [] F H:=⟨x',hg,hm,he⟩
theorem zo {ι:Type} {inv:ι→AFr × zz} {good:ι→Prop} {μ:ι→Nat} {x:ι} {i:Nat} (h:Holds E n N Q (.out (.exit i)) k F H):Holds E n N (LoopP E n N inv good μ x k Q) (.out (.exit i)) [] F H:=h
theorem zl {ι:Type} {inv:ι→AFr × zz} {good:ι→Prop} {μ:ι→Nat} {x:ι} (h:Holds E n N Q (.out .ret) k F H):Holds E n N (LoopP E n N inv good μ x k Q) (.out .ret) [] F H:=h
end
def tO (rvs:List RV) (v:AV) (e:zL) (F':AFr) (H':zz):Prop :=
 match e with
 | .exit _=>False
 | _=>∃ vs,wx F' H' rvs=some vs∧Fz H' (xD vs) v
theorem fn_body {E:Env} {f:FuncId} {fn:Func} {ac:ACode} {args:List AV} {v:AV} {n:Nat} {rvs:List RV} (hf:E.P.funcs[f]? = some fn) (hnm:(fn.name == "runtime.NumGoroutine")=false) (hb:fn.body.map (yj E.P n)=some ac) (hnt:fn.ntmps=n) (hrv:fn.results.toList.map (x9 E.P)=rvs.map some) (hn:Nat.ble args.length n=true)
 (h:Holds E n 0 (tO rvs v) (.code ac) [] (xF 0 args) []):PCall E f args v:=by
 subst hnt
 exact pcall_body hf hnm hb hrv (Nat.le_of_ble_eq_true hn) (AWP.mono h fun e F H h=>by cases e<;>exact h)
theorem zR {E:Env} {n N:Nat} {rvs:List RV} {v u:AV} {F:AFr} {H:zz} {vs:List AV} (h1:wx F H rvs=some vs) (h2:xD vs=u) (h3:Fz H u v):Holds E n N (tO rvs v) (.out .ret) [] F H:=⟨vs,h1,h2 ▸ h3⟩
theorem Fz.val {H:zz} {v v':Value} (h:v=v'):Fz H (.val v) (.val v'):=⟨[],trivial,h ▸ .refl _⟩
def FW (M:Nat) (F:AFr):AFr→Prop
 | []=>True
 | (d,v) :: r=>Wk M (F.get d) v∧FW M F r
theorem FW.spec {M:Nat} {F:AFr}:∀ {F':AFr},FW M F F'→∀ t,Wk M (F.get t) (F'.get t)
 | [],_,t=>by simp only [AFr.get];exact .undef _
 | (d,v) :: r,h,t=>by
  simp only [AFr.get]
  by_cases e:d=t
  · subst e;rw [Nat.beq_refl,cond_true];exact h.1
  · have hb:Nat.beq d t=false:=by cases hbb:Nat.beq d t with
     | false=>rfl
     | true=>exact absurd (Nat.eq_of_beq_eq_true hbb) e
    rw [hb,cond_false];exact FW.spec h.2 t
theorem zI {E:Env} {n N:Nat} {F F':AFr} {H:zz} (h:FW H.length F F'):Ent E n N F H F' H :=
 fun K _w _tmps h1 h2 h3=>⟨K,h1,⟨h2.1,fun t=>(h.spec t).rep (h2.2 t)⟩,Ev.refl _ _ _ _ h3⟩
theorem Wk.of {M:Nat} {v v':AV} (h:v=v'):Wk M v v':=h ▸ .refl _
theorem Wk.int {M:Nat} {k:IntKind} {a b:Int} (h:a=b):Wk M (.val (.int k a)) (.val (.int k b)):=h ▸ .refl _
theorem zX (σ:Nat→Sub):∀ (n:Nat) (v:AV),SizeOf.sizeOf v≤n→v.closed=true→v.sub σ=v:=by
 intro n
 induction n with
 | zero=>intro v hv;cases v<;>simp at hv<;>omega
 | succ n ih =>
  have lst:∀ (cs:List AV),SizeOf.sizeOf cs≤n→AV.closedL cs=true→AV.subL σ cs=cs:=by
   intro cs hc hcl
   rw [AV.subL_eq]
   conv=>rhs;rw [← List.map_id cs]
   exact List.map_congr_left fun c hm=>ih c (by have:=List.sizeOf_lt_of_mem hm;omega) (AV.closedL_mem hcl c hm)
  intro v hv hcl
  cases v<;>simp only [AV.sub]<;>simp at hv<;>first | rfl | (cases hcl;done) | (rw [lst _ (by omega) hcl]) | (simp only [AV.closed] at hcl;exact congrArg _ (ih _ (by omega) hcl))
theorem Wk.cl {M:Nat} {σ:Nat→Sub} {v:AV} (h:v.closed=true):Wk M (v.sub σ) v:=Wk.of (zX σ _ v (Nat.le_refl _) h)
structure MapBox where
 g:(α:Type)→(α→AV)→List α→List AV
 h:∀ α e l,g α e l=l.map e
theorem mapBox_ne : Nonempty MapBox:=⟨⟨fun _ e l=>l.map e,fun _ _ _=>rfl⟩⟩
noncomputable def mapE {α:Type} (e:α→AV) (l:List α):List AV:=(Classical.choice mapBox_ne).g α e l
theorem zk {α:Type} (e:α→AV) (l:List α):mapE e l=l.map e:=(Classical.choice mapBox_ne).h _ _ _
theorem zq {α:Type} (e:α→AV) (l:List α):(mapE e l).length=l.length:=by rw [zk,List.length_map]
theorem xZ {α:Type} {e:α→AV} (h:∀ x,(e x).closed=true) (l:List α):AV.closedL (mapE e l)=true:=by rw [zk];exact AV.closedL_map e h l
theorem wrap64 {x:Int} (h1:-9223372036854775808≤x) (h2:x<9223372036854775808):IntKind.i64.wrap x=x:=by
 unfold IntKind.wrap
 simp [IntKind.bits,IntKind.signed]
 omega
end Go.Am
end
