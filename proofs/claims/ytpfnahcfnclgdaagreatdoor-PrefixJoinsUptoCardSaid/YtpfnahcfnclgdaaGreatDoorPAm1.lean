/- The abstract machine that the walks of this claim are carried out on: no condition. -/
import Derived.Control
import Derived.Laws.Cells
import Derived.Laws.IdiomCopy
import Derived.Laws.CopyRow
import Derived.Laws.NewBlocks
import Derived.Laws.Entries
import Derived.Laws.AppendOwn
import Derived.Laws.MakeOwn
section
namespace Go.Am
inductive AV where
 | undef
 | val (v:Value)
 | agg (cs:List AV)
 | tup (vs:List AV)
 | ptr (b off:Nat)
 | eptr (b k i j:Nat)
 | iptr (cs:List AV)
 | sl (b k lo len:Nat)
 | slc (b k lo len cap:Nat)
 | isl (k:Nat) (es:List AV)
 | fn (f:FuncId) (cs:List AV)
 | yld (l:Nat)
 | iface (t:TypeId) (v:AV)
 | amap (b:Nat)
 | bsh (t:TypeId) (b:Nat) (u:Bool)
 | bsl (e:TypeId) (b n:Nat)
 | intq
 deriving Inhabited
def AV.cells : AV→List AV
 | .agg cs=>cs
 | v=>[v]
def AV.one : AV→Bool
 | .undef | .agg _ | .tup _=>false
 | .val v=>v.oneCell'
 | _=>true
inductive Opd where
 | t (i:Nat)
 | c (v:AV)
 | g (n:Nat)
 deriving Inhabited
inductive LK where
 | int
 | bool
 | str
 deriving Inhabited,DecidableEq
inductive AOp where
 | mv (x:Opd)
 | pick (c a b:Opd)
 | box (x:Opd)
 | bnew (t:TypeId)
 | appb (e:TypeId) (bytes:Nat) (s x:Opd)
 | build (zero:List AV) (parts:List (Nat × Nat × Opd))
 | bslice (k:Nat) (es:List Opd)
 | ld (k:Nat) (agg:Bool) (x:Opd)
 | st (k:Nat) (x v:Opd)
 | nilchk (x:Opd)
 | bin (op:BinOp) (x y:Opd)
 | eqst (neq:Bool) (ks:List LK) (x y:Opd)
 | eqb (neq:Bool) (x y:Opd)
 | eqnil (neq:Bool) (x y:Opd)
 | un (op:UnOp) (x:Opd)
 | cvi (k:IntKind) (x:Opd)
 | mkif (t:TypeId) (x:Opd)
 | mkfn (f:FuncId) (xs:List Opd)
 | mkslice (k bytes:Nat) (zero:AV) (l c:Opd)
 | slc (k:Nat) (x:Opd) (lo hi:Option Opd)
 | slcs (x:Opd) (lo hi:Option Opd)
 | slc3 (k:Nat) (x:Opd) (lo:Option Opd) (hi mx:Opd)
 | fa (off:Nat) (x:Opd)
 | fld (off k:Nat) (agg:Bool) (x:Opd)
 | ia (k:Nat) (x i:Opd)
 | iaA (k len:Nat) (x i:Opd)
 | ixA (k len:Nat) (agg:Bool) (x i:Opd)
 | ixS (x i:Opd)
 | ext (x:Opd) (i:Nat)
 | len (x:Opd)
 | lens (x:Opd)
 | app (k bytes:Nat) (s x:Opd)
 | apps (s x:Opd)
 | appz (k bytes:Nat) (zero:AV) (s n:Opd)
 | copy (k:Nat) (d s:Opd)
 | mx (xs:List Opd)
 | mn (xs:List Opd)
 | cap (x:Opd)
 | call (f:FuncId) (xs:List Opd)
 | callv (x:Opd) (xs:List Opd)
 | mkmap
 | mlook (st:Bool) (zero:AV) (m x:Opd) (ok:Bool)
 | mput (st:Bool) (m x v:Opd)
 | mlen (m:Opd)
 | cvs (x:Opd)
 | tob (x:Opd)
 | clr (k:Nat) (zero:AV) (x:Opd)
 | bad
 deriving Inhabited
structure AOper where
 dst:Option Nat
 op:AOp
 after:List Nat
 guard:Option (Nat × Bool)
 deriving Inhabited
inductive ACode where
 | skip
 | reg (ops:List AOper)
 | draw (ops:List AOper)
 | seq (a b:ACode)
 | cond (c:Opd) (a b:ACode)
 | block (id:Nat) (a:ACode)
 | loop (a:ACode)
 | rfun (f:Opd) (ps:List Nat) (assign body:ACode)
 | exit (id:Nat)
 | ret
 | bad
 deriving Inhabited
inductive zL where
 | normal
 | exit (id:Nat)
 | ret
 deriving Inhabited,DecidableEq
abbrev AFr := List (Nat × AV)
def AFr.get : AFr→Nat→AV
 | [],_=>.undef
 | (d,v) :: r,t=>cond (Nat.beq d t) v (AFr.get r t)
def AFr.set (F:AFr) (d:Option Nat) (v:AV):AFr :=
 match d with
 | some d=>(d,v) :: F
 | none=>F
inductive AObj where
 | dead
 | cells (cs:List AV)
 | arr (k:Nat) (es:List AV)
 | loop (F:AFr) (n:Nat) (ps:List Nat) (assign body:ACode) (st:LoopState) (pd:Option zL)
 | amap (es:List (AV × AV))
 | ext (j:Nat) (st:Bool)
 deriving Inhabited
abbrev zz := List AObj
def AObj.live : AObj→Prop
 | .dead=>False
 | .ext _ _=>False
 | _=>True
structure Ctx where
 γ:Nat→Option (Nat × Nat)
 I:Nat→Prop
 B:Nat→Prop
 e:Bool
def sizeAt (w:World) (blk n:Nat):Prop:=∃ c ty fz,w.heap[blk]? = some (.cells c ty fz)∧n≤c.size
inductive VRep (K:Ctx) (M:Nat) (w:World):AV→Value→Prop
 | undef (y:Value):VRep K M w .undef y
 | val (v:Value) (hv:∀ cs,v≠.agg cs):VRep K M w (.val v) v
 | agg (cs:List AV) (ys:List Value) (hl:cs.length=ys.length) (h:∀ (i:Nat) c y,cs[i]? = some c→ys[i]? = some y→VRep K M w c y):VRep K M w (.agg cs) (.agg ys.toArray)
 | tup (cs:List AV) (ys:List Value) (hl:cs.length=ys.length) (h:∀ (i:Nat) c y,cs[i]? = some c→ys[i]? = some y→VRep K M w c y):VRep K M w (.tup cs) (.tuple ys.toArray)
 | ptr (b off blk base:Nat) (hM:b<M) (hγ:K.γ b=some (blk,base)):VRep K M w (.ptr b off) (.pointer (some ⟨blk,base+off,none⟩))
 | eptr (b k i j blk base:Nat) (hM:b<M) (hγ:K.γ b=some (blk,base)):VRep K M w (.eptr b k i j) (.pointer (some ⟨blk,base+(i * k+j),none⟩))
 | iptr (cs:List AV) (f:Nat→Value) (blk off:Nat) (hI:K.I blk) (hc:∀ (j:Nat) c,cs[j]? = some c→w.cell? ⟨blk,off+j,none⟩=some (f j))
  (h:∀ (j:Nat) c,cs[j]? = some c→VRep K M w c (f j)):VRep K M w (.iptr cs) (.pointer (some ⟨blk,off,none⟩))
 | slnil (b k lo:Nat) (hM:b<M):VRep K M w (.sl b k lo 0) (.slice none 0 0)
 | sl0 (b k lo:Nat) (a:Addr) (hM:b<M):VRep K M w (.sl b k lo 0) (.slice (some a) 0 0)
 | sl (b k lo len cap blk base:Nat) (hM:b<M) (hγ:K.γ b=some (blk,base)) (hle:len≤cap) (hs:sizeAt w blk (base+(lo+cap) * k)) :
  VRep K M w (.sl b k lo len) (.slice (some ⟨blk,base+lo * k,none⟩) len cap)
 | slc (b k lo len cap blk base:Nat) (hM:b<M) (hγ:K.γ b=some (blk,base)) (hle:len≤cap) (hs:sizeAt w blk (base+(lo+cap) * k)) :
  VRep K M w (.slc b k lo len cap) (.slice (some ⟨blk,base+lo * k,none⟩) len cap)
 | islnil (k:Nat):VRep K M w (.isl k []) (.slice none 0 0)
 | isl (k:Nat) (es:List AV) (f:Nat→Nat→Value) (a:Addr) (cap:Nat) (hle:es.length≤cap) (hI:es≠[]→K.I a.block∧a.spot=none)
  (hk:∀ (i:Nat) e,es[i]? = some e→e.cells.length=k)
  (hc:∀ (i:Nat) e (j:Nat) c,es[i]? = some e→e.cells[j]? = some c→w.cell? ⟨a.block,a.off+(i * k+j),none⟩=some (f i j))
  (h:∀ (i:Nat) e (j:Nat) c,es[i]? = some e→e.cells[j]? = some c→VRep K M w c (f i j)):VRep K M w (.isl k es) (.slice (some a) es.length cap)
 | fn (f:FuncId) (cs:List AV) (ys:List Value) (hl:cs.length=ys.length) (h:∀ (i:Nat) c y,cs[i]? = some c→ys[i]? = some y→VRep K M w c y) :
  VRep K M w (.fn f cs) (.func (.func f) #[] ys.toArray)
 | yld (l blk base:Nat) (hM:l<M) (hγ:K.γ l=some (blk,base)):VRep K M w (.yld l) (.func (.yield blk) #[] #[])
 | iface (t:TypeId) (v:AV) (y:Value) (h:VRep K M w v y):VRep K M w (.iface t v) (.iface t y)
 | amap (b blk base:Nat) (hM:b<M) (hγ:K.γ b=some (blk,base)):VRep K M w (.amap b) (.map (some blk))
 | bsh (t:TypeId) (b blk:Nat) (c:Array Value) (fz:Nat × Nat) (hM:b<M) (hγ:K.γ b=some (blk,0)) (hc:w.heap[blk]? = some (.cells c t fz)) (hn:c.size=2):VRep K M w (.bsh t b false) (.pointer none)
 | bsh1 (t:TypeId) (b blk:Nat) (c:Array Value) (fz:Nat × Nat) (hM:b<M) (hγ:K.γ b=some (blk,0)) (hc:w.heap[blk]? = some (.cells c t fz)) (hn:c.size=2):VRep K M w (.bsh t b true) (.pointer (some ⟨blk,0,none⟩))
 | bsl (e:TypeId) (b n blk cap:Nat) (c:Array Value) (fz:Nat × Nat) (hM:b<M) (hγ:K.γ b=some (blk,0)) (hc:w.heap[blk]? = some (.cells c e fz)) (hn:n≤cap) (hcap:cap≤c.size):VRep K M w (.bsl e b n) (.slice (some ⟨blk,0,none⟩) n cap)
 | intq (n:Int):VRep K M w .intq (.int .i64 n)
theorem sizeAt.mono {w w':World} (hs:∀ (b:Nat) c ty fz,w.heap[b]? = some (.cells c ty fz)→∃ c' fz',w'.heap[b]? = some (.cells c' ty fz')∧c'.size=c.size)
 {blk n:Nat} (h:sizeAt w blk n):sizeAt w' blk n:=by
 obtain ⟨c,ty,fz,h1,h2⟩:=h
 obtain ⟨c',fz',h3,h4⟩:=hs _ _ _ _ h1
 exact ⟨c',ty,fz',h3,by omega⟩
theorem VRep.mono {K K':Ctx} {M M':Nat} {w w':World} (hγ:∀ b,b<M→K'.γ b=K.γ b) (hM:M≤M') (hI:∀ b,K.I b→K'.I b)
 (hw:∀ b,K.I b→∀ o,w'.cell? ⟨b,o,none⟩=w.cell? ⟨b,o,none⟩)
 (hs:∀ (b:Nat) c ty fz,w.heap[b]? = some (.cells c ty fz)→∃ c' fz',w'.heap[b]? = some (.cells c' ty fz')∧c'.size=c.size)
 {v:AV} {y:Value} (h:VRep K M w v y):VRep K' M' w' v y:=by
 induction h with
 | undef y=>exact .undef y
 | val v hv=>exact .val v hv
 | agg cs ys hl _ ih=>exact .agg cs ys hl ih
 | tup cs ys hl _ ih=>exact .tup cs ys hl ih
 | ptr b off blk base hb hg=>exact .ptr b off blk base (Nat.lt_of_lt_of_le hb hM) ((hγ b hb).trans hg)
 | eptr b k i j blk base hb hg=>exact .eptr b k i j blk base (Nat.lt_of_lt_of_le hb hM) ((hγ b hb).trans hg)
 | iptr cs f blk off hi hc _ ih=>exact .iptr cs f blk off (hI _ hi) (fun j c hj=>(hw _ hi _).trans (hc j c hj)) ih
 | slnil b k lo hb=>exact .slnil b k lo (Nat.lt_of_lt_of_le hb hM)
 | sl0 b k lo a hb=>exact .sl0 b k lo a (Nat.lt_of_lt_of_le hb hM)
 | sl b k lo len cap blk base hb hg hle hz=>exact .sl b k lo len cap blk base (Nat.lt_of_lt_of_le hb hM) ((hγ b hb).trans hg) hle (hz.mono hs)
 | slc b k lo len cap blk base hb hg hle hz=>exact .slc b k lo len cap blk base (Nat.lt_of_lt_of_le hb hM) ((hγ b hb).trans hg) hle (hz.mono hs)
 | islnil k=>exact .islnil k
 | isl k es f a cap hle hi hk hc _ ih =>
  refine .isl k es f a cap hle (fun hne=>⟨hI _ (hi hne).1,(hi hne).2⟩) hk (fun i e j c he hj=>?_) ih
  have hne:es≠[]:=by intro h0;subst h0;simp at he
  exact (hw _ (hi hne).1 _).trans (hc i e j c he hj)
 | fn f cs ys hl _ ih=>exact .fn f cs ys hl ih
 | yld l blk base hb hg=>exact .yld l blk base (Nat.lt_of_lt_of_le hb hM) ((hγ l hb).trans hg)
 | iface t v y _ ih=>exact .iface t v y ih
 | amap b blk base hb hg=>exact .amap b blk base (Nat.lt_of_lt_of_le hb hM) ((hγ b hb).trans hg)
 | bsh t b blk c fz hb hg hc hn =>
  obtain ⟨c',fz',h1,h2⟩:=hs _ _ _ _ hc
  exact .bsh t b blk c' fz' (Nat.lt_of_lt_of_le hb hM) ((hγ b hb).trans hg) h1 (h2.trans hn)
 | bsh1 t b blk c fz hb hg hc hn =>
  obtain ⟨c',fz',h1,h2⟩:=hs _ _ _ _ hc
  exact .bsh1 t b blk c' fz' (Nat.lt_of_lt_of_le hb hM) ((hγ b hb).trans hg) h1 (h2.trans hn)
 | bsl e b n blk cap c fz hb hg hc hn hcap =>
  obtain ⟨c',fz',h1,h2⟩:=hs _ _ _ _ hc
  exact .bsl e b n blk cap c' fz' (Nat.lt_of_lt_of_le hb hM) ((hγ b hb).trans hg) h1 hn (by omega)
 | intq n=>exact .intq n
def vi (n:Nat) (K:Ctx) (M:Nat) (w:World) (F:AFr) (tmps:Array Value):Prop :=
 tmps.size=n∧∀ t,VRep K M w (F.get t) (tmps.getD t undef)
def vB (K:Ctx) (M:Nat) (w:World) (c:Array Value) (pos:Nat) (cs:List AV):Prop :=
 ∀ (j:Nat) x,cs[j]? = some x→∃ y,c[pos+j]? = some y∧VRep K M w x y
inductive sA : Option zL→Option Code→Prop
 | none:sA none none
 | exit (id:Nat):sA (some (.exit id)) (some (.exit id))
 | ret:sA (some .ret) (some .ret)
end Go.Am
end
section
namespace Go.Am
def ofValue : Value→AV
 | .agg cs=>if cs.toList.all (·.oneCell') then .agg (cs.toList.map .val) else .undef
 | v=>.val v
def opd : Operand→Opd
 | .tmp t=>.t t
 | .const v=>.c (ofValue v)
 | .global g=>.g g
 | .func f=>.c (.fn f [])
def xI : TypeDesc→Bool
 | .struct _ | .array _ _=>true
 | _=>false
def vJ (P:Program) (t:TypeId):Option (Nat × Bool) :=
 match P.info? t,P.underlying t with
 | some i,some d=>some (i.size,xI d)
 | _,_=>none
def ui : Nat→List (Nat × Operand)→Bool
 | _,[]=>true
 | n,(i,_) :: r=>Nat.beq i n && ui (n+1) r
def wt (P:Program) (g:TypeId→Option (List LK)):Nat→List Field→Option (List LK)
 | _,[]=>some []
 | off,f :: fs=>match P.info? f.type,g f.type with
  | some i,some ks=>if f.name != "_" && Nat.beq f.offset off && Nat.beq i.size ks.length && Nat.ble 1 ks.length then (wt P g (off+ks.length) fs).map (ks++·) else none
  | _,_=>none
def uc (P:Program):Nat→TypeId→Option (List LK)
 | 0,_=>none
 | n+1,t=>match P.underlying t with
  | some .bool=>some [.bool]
  | some (.int _)=>some [.int]
  | some .string=>some [.str]
  | some (.struct fs)=>if P.stoodInHeld t then none else wt P (uc P n) 0 fs.toList
  | _=>none
def th (P:Program) (t:TypeId):Option (List LK):=if P.eqGuardType P.depth t then none else
 match uc P 20 t,vJ P t with
 | some ks,some (k,true)=>if Nat.beq k ks.length then some ks else none
 | _,_=>none
def vA (ei:TypeInfo):Bool :=
 match ei.zero with
 | some z=>Nat.beq z.cells.size ei.size
 | none=>false
def ve (P:Program) (fs:Array Field):List (Nat × Operand)→Option (List (Nat × Nat × Opd))
 | []=>some []
 | (i,x) :: r=>match fs[i]? with
  | some f=>match P.info? f.type,ve P fs r with
   | some fi,some r'=>some ((f.offset,fi.size,opd x) :: r')
   | _,_=>none
  | none=>none
def isBld : Operand→Bool
 | .const (.agg cs)=>match cs.toList with
  | [.pointer none,.slice none 0 0]=>true
  | _=>false
 | _=>false
theorem isBld_spec {x:Operand} (h:isBld x=true):x=.const (.agg #[.pointer none,.slice none 0 0]):=by
 unfold isBld at h
 split at h
 · rename_i cs
   split at h
   · rename_i hl
     have:cs = #[.pointer none,.slice none 0 0]:=by apply Array.ext';rw [hl]
     rw [this]
   · cases h
 · cases h
def za (P:Program):Op→AOp
 | .move x | .assign x=>.mv (opd x)
 | .pick c a b=>.pick (opd c) (opd a) (opd b)
 | .alloc t=>match (P.info? t).bind (·.zero) with
  | some z=>if isBld (.const z) then .bnew t else .box (.c (ofValue z))
  | none=>.bad
 | .box t x=>if isBld x then .bnew t else .box (opd x)
 | .build t ps=>match P.info? t,P.underlying t with
  | some i,some (.struct fs)=>match i.zero.map ofValue with
   | some (.agg z) =>
    match ve P fs ps.toList with
    | some parts=>if fs.toList.all (fun f=>(P.info? f.type).isSome) then .build z parts else .bad
    | none=>.bad
   | _=>.bad
  | _,_=>.bad
 | .buildSlice t len ps=>match P.underlying t with
  | some (.slice e)=>match P.info? e with
   | some ei=>if Nat.beq ps.size len && ui 0 ps.toList && Nat.ble (len * ei.size) 16777216 && Nat.ble 1 ei.size && vA ei then .bslice ei.size (ps.toList.map fun p=>opd p.2) else .bad
   | none=>.bad
  | _=>.bad
 | .load t x=>match vJ P t with
  | some (k,a)=>.ld k a (opd x)
  | none=>.bad
 | .store t x v=>match P.info? t with
  | some i=>.st i.size (opd x) (opd v)
  | none=>.bad
 | .nilCheck x=>.nilchk (opd x)
 | .binOp op t x y _=>match P.underlying t,op with
  | some (.struct _),.eql=>match th P t with
   | some ks=>.eqst false ks (opd x) (opd y)
   | none=>.bad
  | some (.struct _),.neq=>match th P t with
   | some ks=>.eqst true ks (opd x) (opd y)
   | none=>.bad
  | some .bool,.eql=>.eqb false (opd x) (opd y)
  | some .bool,.neq=>.eqb true (opd x) (opd y)
  | some (.slice _),.eql=>.eqnil false (opd x) (opd y)
  | some (.slice _),.neq=>.eqnil true (opd x) (opd y)
  | some (.int _),_ | some .string,_=>.bin op (opd x) (opd y)
  | _,_=>.bad
 | .unOp op _ x=>.un op (opd x)
 | .convert s d x=>match P.underlying s,P.underlying d with
  | some (.int _),some (.int k)=>.cvi k (opd x)
  | some (.int _),some .string=>.cvs (opd x)
  | some .string,some (.slice e)=>match P.underlying e with
   | some (.int .u8)=>.tob (opd x)
   | _=>.bad
  | _,_=>.bad
 | .makeInterface t x=>match P.underlying t with
  | some (.interface _)=>.bad
  | some _=>.mkif t (opd x)
  | none=>.bad
 | .makeFunc (.func f) first caps=>if first.isEmpty then .mkfn f (caps.toList.map opd) else .bad
 | .makeSlice t l c=>match P.underlying t with
  | some (.slice e)=>match P.info? e with
   | some ei=>match ei.zero with
    | some z=>if Nat.beq z.cells.size ei.size && Nat.ble 1 ei.size then .mkslice ei.size ei.bytes (ofValue z) (opd l) (opd c) else .bad
    | none=>.bad
   | none=>.bad
  | _=>.bad
 | .slice t x lo hi mx=>match P.underlying t with
  | some (.slice e)=>match P.info? e,mx,hi,lo with
   | some ei,none,_,_=>.slc ei.size (opd x) (lo.map opd) (hi.map opd)
   | some ei,some m,some h,_=>.slc3 ei.size (opd x) (lo.map opd) (opd h) (opd m)
   | _,_,_,_=>.bad
  | some .string=>match mx with
   | none=>.slcs (opd x) (lo.map opd) (hi.map opd)
   | some _=>.bad
  | _=>.bad
 | .fieldAddr s x f=>match P.underlying s with
  | some (.struct fs)=>match fs[f]? with
   | some fd=>match P.info? fd.type with
    | some i=>if Nat.beq i.size 0 then .bad else .fa fd.offset (opd x)
    | none=>.bad
   | none=>.bad
  | _=>.bad
 | .field t x f=>match P.underlying t with
  | some (.struct fs)=>match fs[f]? with
   | some fd=>match vJ P fd.type with
    | some (k,a)=>.fld fd.offset k a (opd x)
    | none=>.bad
   | none=>.bad
  | _=>.bad
 | .indexAddr t x i=>match P.underlying t with
  | some (.slice e)=>match P.info? e with
   | some ei=>.ia ei.size (opd x) (opd i)
   | none=>.bad
  | some (.array n e)=>match P.info? e with
   | some ei=>.iaA ei.size n (opd x) (opd i)
   | none=>.bad
  | _=>.bad
 | .index t x i=>match P.underlying t with
  | some (.array n e)=>match vJ P e with
   | some (k,a)=>.ixA k n a (opd x) (opd i)
   | none=>.bad
  | some .string=>.ixS (opd x) (opd i)
  | _=>.bad
 | .extract x i=>.ext (opd x) i
 | .call c=>match c.callee with
  | .value (.func f)=>.call f (c.args.toList.map opd)
  | .value f=>.callv (opd f) (c.args.toList.map opd)
  | .invoke _ _=>.bad
  | .builtin b=>match b,c.args.toList,c.argTypes.toList with
   | .len,[x],[t]=>match P.underlying t with
    | some (.slice _)=>.len (opd x)
    | some .string=>.lens (opd x)
    | some (.map _ _)=>.mlen (opd x)
    | _=>.bad
   | .cap,[x],[t]=>match P.underlying t with
    | some (.slice _)=>.cap (opd x)
    | _=>.bad
   | .append,[s,x],[t,u]=>match P.underlying t,P.underlying u with
    | some (.slice e),some (.slice _)=>match P.info? e with
     | some ei=>if vA ei && Nat.ble 1 ei.size then .app ei.size ei.bytes (opd s) (opd x) else .bad
     | none=>.bad
    | some (.slice e),some (.int _)=>match P.info? e with
     | some ei=>match ei.zero with
      | some z=>if Nat.beq z.cells.size ei.size && Nat.ble 1 ei.size then .appz ei.size ei.bytes (ofValue z) (opd s) (opd x) else .bad
      | none=>.bad
     | none=>.bad
    | some (.slice e),some .string=>match P.info? e with
     | some ei=>if vA ei && Nat.beq ei.size 1 then .appb e ei.bytes (opd s) (opd x) else .bad
     | none=>.bad
    | _,_=>.bad
   | .copy,[d,s],[t,u]=>match P.underlying t,P.underlying u with
    | some (.slice e),some (.slice _)=>match P.info? e with
     | some ei=>.copy ei.size (opd d) (opd s)
     | none=>.bad
    | _,_=>.bad
   | .max,xs,_=>.mx (xs.map opd)
   | .min,xs,_=>.mn (xs.map opd)
   | .clear,[x],[t]=>match P.underlying t with
    | some (.slice e)=>match P.info? e with
     | some ei=>match ei.zero with
      | some z=>if Nat.beq z.cells.size ei.size && (ofValue z).cells.all AV.one && Nat.beq (ofValue z).cells.length ei.size then .clr ei.size (ofValue z) (opd x) else .bad
      | none=>.bad
     | none=>.bad
    | _=>.bad
   | _,_,_=>.bad
 | .makeMap _ none=>.mkmap
 | .lookup t m x ok=>match P.underlying t with
  | some (.map k e)=>match P.underlying k,(P.info? e).bind (·.zero) with
   | some .string,some z=>.mlook true (ofValue z) (opd m) (opd x) ok
   | some (.int _),some z=>.mlook false (ofValue z) (opd m) (opd x) ok
   | _,_=>.bad
  | _=>.bad
 | .mapUpdate t m x v=>match P.underlying t with
  | some (.map k _)=>match P.underlying k with
   | some .string=>.mput true (opd m) (opd x) (opd v)
   | some (.int _)=>.mput false (opd m) (opd x) (opd v)
   | _=>.bad
  | _=>.bad
 | _=>.bad
def Opd.le (n:Nat):Opd→Bool
 | .t i=>Nat.blt i n
 | _=>true
def binds (e:Edge):Bool:=Region.binds .any e
def ur (ops:Array Oper):Option (Nat × Bool)→Option (Option (Nat × Bool))
 | none=>some none
 | some (j,b)=>match (ops[j]?).bind (·.dst) with
  | some d=>some (some (d,b))
  | none=>none
def zI (P:Program) (n:Nat) (ops:Array Oper) (o:Oper):AOper :=
  match o.dst,ur ops o.guard with
  | d,some g=>{ dst:=d,op:=if (match d with | some d=>Nat.blt d n | none=>true) then za P o.op else .bad,
                   after:=(o.after.toList.filter binds).map (·.on),guard:=g }
  | d,none=>{ dst:=d,op:=.bad,after:=(o.after.toList.filter binds).map (·.on),guard:=none }
def yF (P:Program) (n:Nat):Code→ACode
 | .skip | .label _=>.skip
 | .region _ ops d=>if d then .draw (ops.toList.map (zI P n ops)) else .reg (ops.toList.map (zI P n ops))
 | .seq a b=>.seq (yF P n a) (yF P n b)
 | .cond c a b=>.cond (opd c) (yF P n a) (yF P n b)
 | .block id a=>.block id (yF P n a)
 | .loop a=>.loop (yF P n a)
 | .rangeFunc f ps a b=>if ps.all (Nat.blt · n) then .rfun (opd f) ps.toList (yF P n a) (yF P n b) else .bad
 | .exit id=>.exit id
 | .scope a=>yF P n a
 | .goto _ | .refuse _=>.bad
 | .ret=>.ret
section
variable (G:Nat→AV)
def Opd.ev (F:AFr):Opd→AV
 | .t i=>F.get i
 | .c v=>v
 | .g n=>G n
def vm (cs:List AV) (off k:Nat) (agg:Bool):Option AV :=
 if agg then (if Nat.ble (off+k) cs.length then some (.agg ((cs.drop off).take k)) else none)
 else match cs.drop off with
  | x :: _=>some x
  | []=>none
def ul (cs:List AV) (off:Nat) (vs:List AV):List AV:=cs.take off++vs++cs.drop (off+vs.length)
def sx : List AV→List (Nat × Nat × AV)→Option (List AV)
 | cs,[]=>some cs
 | cs,(off,k,v) :: r=>if Nat.beq v.cells.length k && Nat.ble (off+k) cs.length then sx (ul cs off v.cells) r else none
def rW (op:BinOp) (a b:Int):Option Bool :=
 match op with
 | .eql=>some (a == b)
 | .neq=>some (a != b)
 | .lss=>some (decide (a<b))
 | .leq=>some (decide (a≤b))
 | .gtr=>some (decide (a > b))
 | .geq=>some (decide (a ≥ b))
 | _=>none
abbrev Ans := Option (Bool × AV × zz)
def ans (v:AV) (H:zz):Ans:=some (true,v,H)
def wa (op:BinOp) (x y:AV) (H:zz):Ans :=
 match x,y with
 | .val (.int k a),.val (.int k' b) =>
  if k=k' then
   match op with
   | .add=>ans (.val (.int k (k.wrap (a+b)))) H
   | .sub=>ans (.val (.int k (k.wrap (a - b)))) H
   | .mul=>ans (.val (.int k (k.wrap (a * b)))) H
   | .quo=>some (!(b == 0),.val (.int k (k.wrap (a.tdiv b))),H)
   | .rem=>some (!(b == 0),.val (.int k (a.tmod b)),H)
   | _=>match rW op a b with
    | some r=>ans (.val (.bool r)) H
    | none=>none
  else none
 | .val (.string a),.val (.string b)=>match op with
  | .add=>some (decide (a.size+b.size≤9223372036854775807),.val (.string (a++b)),H)
  | .eql=>ans (.val (.bool (a.toList == b.toList))) H
  | .neq=>ans (.val (.bool (!(a.toList == b.toList)))) H
  | _=>none
 | _,_=>none
def xE : List LK→List AV→List AV→Option Bool
 | [],_,_=>some true
 | .int :: ks,.val (.int k a) :: cs,.val (.int k' b) :: ds=>if k=k' then (xE ks cs ds).map ((a == b) && ·) else none
 | .bool :: ks,.val (.bool a) :: cs,.val (.bool b) :: ds=>(xE ks cs ds).map ((a == b) && ·)
 | .str :: ks,.val (.string a) :: cs,.val (.string b) :: ds=>(xE ks cs ds).map ((a.toList == b.toList) && ·)
 | _,_,_=>none
def cellsOf (H:zz) (b:Nat):Option (List AV) :=
 match H[b]? with
 | some (.cells cs)=>some cs
 | _=>none
def xj (H:zz) (b k:Nat):Option (List AV) :=
 match H[b]? with
 | some (.arr k' es)=>if Nat.beq k k' then some es else none
 | _=>none
def uB (H:zz) (k:Nat):AV→Option (List AV)
 | .isl k' es=>if Nat.beq k k' then some es else none
 | .sl b k' lo len=>if Nat.beq k k' then (xj H b k).map fun es=>(es.drop lo).take len else none
 | .val (.slice none 0 0)=>some []
 | _=>none
def byteA (s:ByteArray):List AV:=s.data.toList.map fun b=>.val (.int .u8 (b.toNat:Int))
def sL (H:zz) (k:Nat) (x:AV):Option (List AV):=match x with
 | .val (.string s)=>if Nat.beq k 1 then some (byteA s) else none
 | x=>uB H k x
def wY (H:zz) (k:Nat):AV→Bool
 | .sl b _ lo len=>match xj H b k with
  | some es=>decide (lo+len≤es.length)
  | none=>false
 | _=>true
def zE (F:AFr):Option Opd→Option (Option Int)
 | none=>some none
 | some x=>match x.ev G F with
  | .val (.int _ i)=>some (some i)
  | _=>none
def zr (o:AOp) (F:AFr) (H:zz):Ans :=
 match o with
 | .mv x=>ans (x.ev G F) H
 | .pick c a b=>match c.ev G F with
  | .val (.bool t)=>ans (cond t (a.ev G F) (b.ev G F)) H
  | _=>none
 | .box x=>some ((x.ev G F).cells.all AV.one,.ptr H.length 0,H++[.cells (x.ev G F).cells])
 | .build zero parts=>match sx zero (parts.map fun p=>(p.1,p.2.1,p.2.2.ev G F)) with
  | some cs=>some (parts.all (fun p=>(p.2.2.ev G F).cells.all AV.one),.agg cs,H)
  | none=>none
 | .bslice k xs=>some (xs.all fun x=>Nat.beq (x.ev G F).cells.length k && (x.ev G F).cells.all AV.one,.sl H.length k 0 xs.length,H++[.arr k (xs.map (·.ev G F))])
 | .ld k agg x=>match x.ev G F with
  | .iptr cs=>match vm cs 0 k agg with
   | some v=>ans v H
   | none=>none
  | .ptr b off=>match cellsOf H b with
   | some cs=>match vm cs off k agg with
    | some v=>ans v H
    | none=>none
   | none=>none
  | .eptr b k' i j=>match xj H b k' with
   | some es=>match vm (es.getD i .undef).cells j k agg with
    | some v=>some (decide (i<es.length),v,H)
    | none=>none
   | none=>none
  | _=>none
 | .st k x v=>match x.ev G F with
  | .ptr b off=>match cellsOf H b with
   | some cs=>some (Nat.ble 1 k && Nat.beq (v.ev G F).cells.length k && Nat.ble (off+k) cs.length && (v.ev G F).cells.all AV.one,.undef,H.set b (.cells (ul cs off (v.ev G F).cells)))
   | none=>none
  | .eptr b k' i j=>match xj H b k' with
   | some es =>
    if Nat.beq k k' && Nat.beq j 0 then
     some (Nat.ble 1 k && decide (i<es.length) && Nat.beq (v.ev G F).cells.length k && (v.ev G F).cells.all AV.one,.undef,H.set b (.arr k' (es.set i (v.ev G F))))
    else
     some (Nat.ble 1 k && decide (i<es.length) && Nat.beq (v.ev G F).cells.length k && Nat.ble (j+k) k' && (v.ev G F).cells.all AV.one,.undef,H.set b (.arr k' (es.set i (.agg (ul (es.getD i .undef).cells j (v.ev G F).cells)))))
   | none=>none
  | _=>none
 | .nilchk x=>match x.ev G F with
  | .ptr b off=>ans (.ptr b off) H
  | .eptr b k i j=>ans (.eptr b k i j) H
  | .iptr cs=>ans (.iptr cs) H
  | .fn f cs=>ans (.fn f cs) H
  | .yld l=>ans (.yld l) H
  | .iface t v=>ans (.iface t v) H
  | _=>none
 | .bin op x y=>wa op (x.ev G F) (y.ev G F) H
 | .eqb neq x y=>match x.ev G F,y.ev G F with
  | .val (.bool a),.val (.bool b)=>ans (.val (.bool (if neq then !(a == b) else (a == b)))) H
  | _,_=>none
 | .eqst neq ks x y=>match x.ev G F,y.ev G F with
  | .agg cs,.agg ds=>match xE ks cs ds with
   | some b=>ans (.val (.bool (if neq then !b else b))) H
   | none=>none
  | _,_=>none
 | .un op x=>match op,x.ev G F with
  | .not,.val (.bool b)=>ans (.val (.bool (!b))) H
  | .neg,.val (.int k a)=>ans (.val (.int k (k.wrap (0 - a)))) H
  | _,_=>none
 | .cvi k x=>match x.ev G F with
  | .val (.int _ a)=>ans (.val (.int k (k.wrap a))) H
  | _=>none
 | .cvs x=>match x.ev G F with
  | .val (.int _ a)=>ans (.val (.string (Utf8.encode a))) H
  | _=>none
 | .tob x=>match x.ev G F with
  | .val (.string s)=>ans (.isl 1 (byteA s)) H
  | _=>none
 | .mkif t x=>ans (.iface t (x.ev G F)) H
 | .mkfn f xs=>ans (.fn f (xs.map (·.ev G F))) H
 | .slc k x lo hi=>match zE G F lo,zE G F hi,x.ev G F with
  | some l,some h,.isl k' es=>if Nat.beq k k' then
   some (decide (0≤l.getD 0∧l.getD 0≤h.getD es.length∧h.getD es.length≤(es.length:Int)),.isl k ((es.take (h.getD es.length).toNat).drop (l.getD 0).toNat),H) else none
  | some l,some h,.sl b k' lo' len=>if Nat.beq k k' then
   some (decide (0≤l.getD 0∧l.getD 0≤h.getD len∧h.getD len≤(len:Int)),.sl b k (lo'+(l.getD 0).toNat) ((h.getD len).toNat - (l.getD 0).toNat),H) else none
  | some l,some h,.val (.slice none 0 0)=>some (decide (l.getD 0=0∧h.getD 0=0),.val (.slice none 0 0),H)
  | _,_,_=>none
 | .slcs x lo hi=>match zE G F lo,zE G F hi,x.ev G F with
  | some l,some h,.val (.string s) =>
   some (decide (0≤l.getD 0∧l.getD 0≤h.getD s.size∧h.getD s.size≤(s.size:Int)),.val (.string (s.extract (l.getD 0).toNat (h.getD s.size).toNat)),H)
  | _,_,_=>none
 | .fa off x=>match x.ev G F with
  | .ptr b o=>ans (.ptr b (o+off)) H
  | .eptr b k i j=>ans (.eptr b k i (j+off)) H
  | .iptr cs=>ans (.iptr (cs.drop off)) H
  | _=>none
 | .fld off k agg x=>match x.ev G F with
  | .agg cs=>match vm cs off k agg with
   | some v=>ans v H
   | none=>none
  | _=>none
 | .ia k x i=>match x.ev G F,i.ev G F with
  | .isl k' es,.val (.int _ n)=>if Nat.beq k k' then some (decide (0≤n∧n<(es.length:Int)),.iptr (es.getD n.toNat .undef).cells,H) else none
  | .sl b k' lo len,.val (.int _ n)=>if Nat.beq k k' then some (decide (0≤n∧n<(len:Int)),.eptr b k (lo+n.toNat) 0,H) else none
  | _,_=>none
 | .iaA k len x i=>match x.ev G F,i.ev G F with
  | .ptr b o,.val (.int _ n)=>some (decide (0≤n∧n<(len:Int)),.ptr b (o+n.toNat * k),H)
  | .iptr cs,.val (.int _ n)=>some (decide (0≤n∧n<(len:Int)),.iptr ((cs.drop (n.toNat * k)).take k),H)
  | _,_=>none
 | .ixA k len agg x i=>match x.ev G F,i.ev G F with
  | .agg cs,.val (.int _ n)=>match vm cs (n.toNat * k) k agg with
   | some v=>some (decide (0≤n∧n<(len:Int)),v,H)
   | none=>none
  | _,_=>none
 | .ixS x i=>match x.ev G F,i.ev G F with
  | .val (.string s),.val (.int _ n)=>some (decide (0≤n∧n<(s.size:Int)),.val (.int .u8 ((s.data.getD n.toNat 0).toNat:Int)),H)
  | _,_=>none
 | .ext x i=>match x.ev G F with
  | .tup vs=>match vs[i]? with
   | some v=>ans v H
   | none=>none
  | _=>none
 | .len x=>match x.ev G F with
  | .isl _ es=>ans (.val (.int .i64 es.length)) H
  | .sl _ _ _ len=>ans (.val (.int .i64 len)) H
  | .val (.slice _ len _)=>ans (.val (.int .i64 len)) H
  | _=>none
 | .lens x=>match x.ev G F with
  | .val (.string s)=>ans (.val (.int .i64 s.size)) H
  | _=>none
 | .app k bytes s x=>match sL H k (x.ev G F) with
  | some new=>match s.ev G F with
   | .val (.slice none 0 0)=>some (wY H k (x.ev G F) && new.all (fun e=>Nat.beq e.cells.length k && e.cells.all AV.one) && decide (new.length * (bytes+1)≤35184372088832),.sl H.length k 0 new.length,H++[.arr k new])
   | .sl b k' lo len=>match xj H b k with
    | some es=>some (wY H k (x.ev G F) && Nat.beq k k' && decide (lo+len=es.length) && new.all (fun e=>Nat.beq e.cells.length k && e.cells.all AV.one) && decide ((len+new.length) * (bytes+1)≤35184372088832),
     .sl H.length k 0 (len+new.length),H.set b .dead++[.arr k (es.drop lo++new)])
    | none=>none
   | .slc b k' lo len cap=>match xj H b k with
    | some es=>some (wY H k (x.ev G F) && Nat.beq k k' && decide (lo+len≤es.length) && new.all (fun e=>Nat.beq e.cells.length k && e.cells.all AV.one) && decide ((len+new.length) * (bytes+1)≤35184372088832) && decide (cap<len+new.length) && ((es.drop lo).take len).all (fun e=>Nat.beq e.cells.length k && e.cells.all AV.one),
     .sl H.length k 0 (len+new.length),H++[.arr k ((es.drop lo).take len++new)])
    | none=>none
   | _=>none
  | none=>none
 | .mx xs=>match (xs.map (·.ev G F):List AV) with
  | [.val (.int k a),.val (.int k' b)]=>if k=k' then ans (.val (.int k (if b > a then b else a))) H else none
  | _=>none
 | .mn xs=>match (xs.map (·.ev G F):List AV) with
  | [.val (.int k a),.val (.int k' b)]=>if k=k' then ans (.val (.int k (if b<a then b else a))) H else none
  | _=>none
 | .mkslice k bytes zero l c=>match l.ev G F,c.ev G F with
  | .val (.int .i64 n),.val (.int .i64 m)=>some (decide (0≤n∧n=m∧n.toNat * (bytes+1)≤35184372088832∧n≤35184372088832) && zero.cells.all AV.one && Nat.beq zero.cells.length k,.sl H.length k 0 n.toNat,H++[.arr k (List.replicate n.toNat zero)])
  | _,_=>none
 | _=>none
end
end Go.Am
end
section
namespace Go.Am
structure Env where
 P:Program
 G:Nat→AV
 X:Nat→Bool→(Nat→Prop)→(Nat→Prop)→World→Prop
 hX:∀ {j:Nat} {st:Bool} {B I I':Nat→Prop} {w w':World},X j st B I w→(∀ b,I b→I' b)→(∀ b,B b∨I b→w'.heap[b]? = w.heap[b]?) →
  (∀ (b:Nat) c ty fz,w.heap[b]? = some (.cells c ty fz)→∃ c' fz',w'.heap[b]? = some (.cells c' ty fz')∧c'.size=c.size)→w.heap.size≤w'.heap.size→X j st B I' w'
abbrev Ctx.of (γ:Nat→Option (Nat × Nat)) (I:Nat→Prop):Ctx:=⟨γ,I,fun _=>False,false⟩
abbrev Env.of (P:Program) (G:Nat→AV):Env:=⟨P,G,fun _ _ _ _ _=>False,fun h=>h.elim⟩
inductive tF (E:Env) (K:Ctx) (M:Nat) (w:World):Option (Nat × Nat)→AObj→Prop
 | dead (g):tF E K M w g .dead
 | cells (blk base:Nat) (cs:List AV) (c:Array Value) (ty:TypeId) (h:w.heap[blk]? = some (.cells c ty (0,0))) (hl:vB K M w c base cs):tF E K M w (some (blk,base)) (.cells cs)
 | arr0 (k:Nat):tF E K M w none (.arr k [])
 | arr (blk base k:Nat) (es:List AV) (c:Array Value) (ty:TypeId) (h:w.heap[blk]? = some (.cells c ty (0,0))) (hk:∀ (i:Nat) e,es[i]? = some e→e.cells.length=k)
  (hl:∀ (i:Nat) e,es[i]? = some e→vB K M w c (base+i * k) e.cells):tF E K M w (some (blk,base)) (.arr k es)
 | loop (blk base:Nat) (F:AFr) (n:Nat) (ps:List Nat) (a b:ACode) (st:LoopState) (pd:Option zL) (r:Loop) (h:w.heap[blk]? = some (.loop r)) (hst:r.state=st) (hpd:sA pd r.pending)
  (hps:r.params.toList=ps) (hn:∀ p∈ps,p<n) (ha:yF E.P n r.assign=a) (hb:yF E.P n r.body=b) (hF:vi n K M w F r.tmps):tF E K M w (some (blk,base)) (.loop F n ps a b st pd)
 | amap (blk base:Nat) (es:List (AV × AV)) (ents:Array MapEntry) (clock:Nat) (h:w.heap[blk]? = some (.map ents clock)) (hl:ents.size=es.length)
  (he:∀ (i:Nat) x y,es[i]? = some x→ents[i]? = some y→VRep K M w x.1 y.key∧VRep K M w x.2 y.val):tF E K M w (some (blk,base)) (.amap es)
 | ext (g) (j:Nat) (st:Bool):tF E K M w g (.ext j st)
def ws (K:Ctx) (H:zz) (blk:Nat):Prop:=∃ (b:Nat) (o:AObj) (base:Nat),H[b]? = some o∧o.live∧K.γ b=some (blk,base)
def yb (K:Ctx) (H:zz) (blk:Nat):Prop:=ws K H blk∨K.B blk
structure XRep (E:Env) (K:Ctx) (w:World) (H:zz):Prop where
 dis:∀ blk,ws K H blk→¬ K.B blk
 low:∀ blk,K.B blk→blk<w.heap.size
 ext:∀ (b:Nat) j st,H[b]? = some (.ext j st)→K.e=true∧E.X j st K.B K.I w
theorem XRep.stay {E:Env} {K K':Ctx} {w w':World} {H H':zz} (x:XRep E K w H) (hB:K'.B=K.B) (hI:∀ b,K.I b→K'.I b) (hw:∀ b,K.B b∨K.I b→w'.heap[b]? = w.heap[b]?)
 (hc:∀ (b:Nat) c ty fz,w.heap[b]? = some (.cells c ty fz)→∃ c' fz',w'.heap[b]? = some (.cells c' ty fz')∧c'.size=c.size) (hs:w.heap.size≤w'.heap.size)
 (hd:∀ blk,ws K' H' blk→ws K H blk∨w.heap.size≤blk) (he:∀ (b:Nat) j st,H'[b]? = some (.ext j st)→∃ b0:Nat,H[b0]? = some (.ext j st)) (hE:K'.e=K.e:=by rfl):XRep E K' w' H' where
 dis blk ho hb:=by
  rw [hB] at hb
  rcases hd blk ho with h | h
  · exact x.dis blk h hb
  · have:=x.low blk hb;omega
 low blk hb:=by rw [hB] at hb;exact Nat.lt_of_lt_of_le (x.low blk hb) hs
 ext b j st hb:=by
  obtain ⟨b0,h0⟩:=he b j st hb
  rw [hB,hE];exact ⟨(x.ext b0 j st h0).1,E.hX (x.ext b0 j st h0).2 hI hw hc hs⟩
structure HRep (E:Env) (K:Ctx) (w:World) (H:zz):Prop where
 obj:∀ (b:Nat) o,H[b]? = some o→tF E K H.length w (K.γ b) o
 inj:∀ (b b':Nat) o o' blk base base',H[b]? = some o→H[b']? = some o'→o.live→o'.live→K.γ b=some (blk,base)→K.γ b'=some (blk,base')→b=b'
 disj:∀ blk,yb K H blk→¬ K.I blk
 low:∀ blk,K.I blk→blk<w.heap.size
 glob:∀ g,VRep K 0 w (E.G g) (.pointer (some ⟨g,0,none⟩))
 x:XRep E K w H
structure Ev (N:Nat) (K:Ctx) (H:zz) (w:World) (K':Ctx) (H':zz) (w':World):Prop where
 γ:∀ b,b<N→K'.γ b=K.γ b
 len:N≤H'.length
 I:∀ b,K.I b→K'.I b
 I':∀ b,K'.I b→K.I b∨yb K H b∨w.heap.size≤b
 own:∀ b,yb K' H' b→yb K H b∨w.heap.size≤b
 frame:∀ b,b<w.heap.size→¬ yb K H b→w'.heap[b]? = w.heap[b]?
 size:w.heap.size≤w'.heap.size
 cells:∀ (b:Nat) c ty fz,w.heap[b]? = some (.cells c ty fz)→∃ c' fz',w'.heap[b]? = some (.cells c' ty fz')∧c'.size=c.size
 loops:∀ (b:Nat) r,w.heap[b]? = some (.loop r)→∃ r',w'.heap[b]? = some (.loop r')
 os:w'.os=w.os
 out:w'.output=w.output
 e:K'.e=K.e
theorem yE {E:Env} {K:Ctx} {w:World} {H:zz} (h:HRep E K w H) {blk:Nat} (ho:yb K H blk):blk<w.heap.size:=by
 rcases ho with ⟨b,o,base,h1,h2,h3⟩ | ho
 case inr=>exact h.x.low blk ho
 have h4:=h.obj b o h1
 rw [h3] at h4
 cases h4 with
 | dead=>exact absurd h2 (by simp [AObj.live])
 | ext=>exact absurd h2 (by simp [AObj.live])
 | cells _ _ _ _ _ hh=>exact (Array.getElem?_eq_some_iff.1 hh).1
 | arr _ _ _ _ _ _ hh=>exact (Array.getElem?_eq_some_iff.1 hh).1
 | loop _ _ _ _ _ _ _ _ _ _ hh=>exact (Array.getElem?_eq_some_iff.1 hh).1
 | amap _ _ _ _ _ hh=>exact (Array.getElem?_eq_some_iff.1 hh).1
theorem Ev.refl (N:Nat) (K:Ctx) (H:zz) (w:World) (h:N≤H.length):Ev N K H w K H w :=
 ⟨fun _ _=>rfl,h,fun _ h=>h,fun _ h=>.inl h,fun _ h=>.inl h,fun _ _ _=>rfl,Nat.le_refl _,fun _ c _ fz h=>⟨c,fz,h,rfl⟩,fun _ r h=>⟨r,h⟩,rfl,rfl,rfl⟩
theorem Ev.trans {N:Nat} {K K1 K2:Ctx} {H H1 H2:zz} {w w1 w2:World} (a:Ev N K H w K1 H1 w1) (b:Ev N K1 H1 w1 K2 H2 w2):Ev N K H w K2 H2 w2 where
 γ x hx:=(b.γ x hx).trans (a.γ x hx)
 len:=b.len
 I x hx:=b.I x (a.I x hx)
 I' x hx:=by
  rcases b.I' x hx with h | h | h
  · exact a.I' x h
  · exact .inr (a.own x h)
  · exact .inr (.inr (Nat.le_trans a.size h))
 own x hx:=by
  rcases b.own x hx with h | h
  · exact a.own x h
  · exact .inr (Nat.le_trans a.size h)
 frame x hx hn:=by
  have h1:=a.frame x hx hn
  refine (b.frame x (Nat.lt_of_lt_of_le hx a.size) fun h=>?_).trans h1
  rcases a.own x h with h | h
  · exact hn h
  · omega
 size:=Nat.le_trans a.size b.size
 cells x c ty fz h:=by
  obtain ⟨c1,fz1,h1,e1⟩:=a.cells x c ty fz h
  obtain ⟨c2,fz2,h2,e2⟩:=b.cells x c1 ty fz1 h1
  exact ⟨c2,fz2,h2,e2.trans e1⟩
 loops x r h:=by
  obtain ⟨r1,h1⟩:=a.loops x r h
  exact b.loops x r1 h1
 os:=b.os.trans a.os
 out:=b.out.trans a.out
 e:=b.e.trans a.e
theorem Ev.mono {N N':Nat} {K K':Ctx} {H H':zz} {w w':World} (h:N≤N') (a:Ev N' K H w K' H' w'):Ev N K H w K' H' w' :=
 { a with γ:=fun b hb=>a.γ b (Nat.lt_of_lt_of_le hb h),len:=Nat.le_trans h a.len }
structure Mv (K:Ctx) (M:Nat) (w:World) (K':Ctx) (M':Nat) (w':World):Prop where
 γ:∀ b,b<M→K'.γ b=K.γ b
 M:M≤M'
 I:∀ b,K.I b→K'.I b
 wc:∀ b,K.I b→∀ o,w'.cell? ⟨b,o,none⟩=w.cell? ⟨b,o,none⟩
 cells:∀ (b:Nat) c ty fz,w.heap[b]? = some (.cells c ty fz)→∃ c' fz',w'.heap[b]? = some (.cells c' ty fz')∧c'.size=c.size
theorem Mv.rep {K K':Ctx} {M M':Nat} {w w':World} (m:Mv K M w K' M' w') {v:AV} {y:Value} (h:VRep K M w v y):VRep K' M' w' v y :=
 h.mono m.γ m.M m.I m.wc m.cells
theorem Mv.lies {K K':Ctx} {M M':Nat} {w w':World} (m:Mv K M w K' M' w') {c:Array Value} {p:Nat} {cs:List AV} (h:vB K M w c p cs):vB K' M' w' c p cs :=
 fun j x hj=>let ⟨y,h1,h2⟩:=h j x hj;⟨y,h1,m.rep h2⟩
theorem Mv.frep {K K':Ctx} {M M' n:Nat} {w w':World} (m:Mv K M w K' M' w') {F:AFr} {tmps:Array Value} (h:vi n K M w F tmps):vi n K' M' w' F tmps :=
 ⟨h.1,fun t=>m.rep (h.2 t)⟩
theorem Mv.orep {E:Env} {K K':Ctx} {M M':Nat} {w w':World} (m:Mv K M w K' M' w') {g:Option (Nat × Nat)} {o:AObj} (h:tF E K M w g o)
 (hh:∀ blk base,g=some (blk,base)→o.live→w'.heap[blk]? = w.heap[blk]?):tF E K' M' w' g o:=by
 cases h with
 | dead=>exact .dead g
 | cells blk base cs c ty h hl=>exact .cells blk base cs c ty ((hh _ _ rfl trivial).trans h) (m.lies hl)
 | arr0 k=>exact .arr0 k
 | arr blk base k es c ty h hk hl=>exact .arr blk base k es c ty ((hh _ _ rfl trivial).trans h) hk (fun i e he=>m.lies (hl i e he))
 | loop blk base F n ps a b st pd r h hst hpd hps hn ha hb hF=>exact .loop blk base F n ps a b st pd r ((hh _ _ rfl trivial).trans h) hst hpd hps hn ha hb (m.frep hF)
 | amap blk base es ents clock h hl he=>exact .amap blk base es ents clock ((hh _ _ rfl trivial).trans h) hl (fun i x y hx hy=>⟨m.rep (he i x y hx hy).1,m.rep (he i x y hx hy).2⟩)
 | ext _ j st=>exact .ext _ j st
theorem yI {w w':World} {b:Nat} (h:w'.heap[b]? = w.heap[b]?) (o:Nat):w'.cell? ⟨b,o,none⟩=w.cell? ⟨b,o,none⟩:=by
 simp only [World.cell?,h]
theorem Ev.mv {E:Env} {N:Nat} {K K':Ctx} {H H':zz} {w w':World} (h:HRep E K w H) (a:Ev N K H w K' H' w'):Mv K N w K' H'.length w' where
 γ:=a.γ
 M:=a.len
 I:=a.I
 wc b hb o:=yI (a.frame b (h.low b hb) fun ho=>h.disj b ho hb) o
 cells:=a.cells
def Ctx.push (K:Ctx) (b:Nat) (g:Option (Nat × Nat)):Ctx:={ K with γ:=fun x=>if x=b then g else K.γ x }
theorem Ctx.push_lt (K:Ctx) {b x:Nat} (g) (h:x<b):(K.push b g).γ x=K.γ x:=by simp [Ctx.push,Nat.ne_of_lt h]
theorem Ctx.push_eq (K:Ctx) (b:Nat) (g):(K.push b g).γ b=g:=by simp [Ctx.push]
theorem zD (w:World) (o:Obj) {b:Nat} (h:b<w.heap.size):(w.alloc o).heap[b]? = w.heap[b]?:=by
 simp only [World.alloc,Array.getElem?_push];rw [if_neg (by omega)]
theorem yR (w:World) (o:Obj):(w.alloc o).heap[w.heap.size]? = some o:=by simp only [World.alloc];simp
theorem HRep.xalloc {E:Env} {K K':Ctx} {w:World} {H H':zz} (h:HRep E K w H) (o:Obj) (hB:K'.B=K.B) (hI:∀ b,K.I b→K'.I b) (hd:∀ blk,ws K' H' blk→ws K H blk∨w.heap.size≤blk)
 (he:∀ (b:Nat) j st,H'[b]? = some (.ext j st)→∃ b0:Nat,H[b0]? = some (.ext j st)) (hE:K'.e=K.e:=by rfl):XRep E K' (w.alloc o) H' :=
 h.x.stay hB hI (fun b hb=>zD w o (hb.elim (h.x.low b) (h.low b))) (fun b c ty fz hb=>⟨c,fz,(zD w o (Array.getElem?_eq_some_iff.1 hb).1).trans hb,rfl⟩) (by simp) hd he hE
theorem HRep.xsame {E:Env} {K K':Ctx} {w:World} {H H':zz} (h:HRep E K w H) (hB:K'.B=K.B) (hI:∀ b,K.I b→K'.I b) (hd:∀ blk,ws K' H' blk→ws K H blk)
 (he:∀ (b:Nat) j st,H'[b]? = some (.ext j st)→∃ b0:Nat,H[b0]? = some (.ext j st)) (hE:K'.e=K.e:=by rfl):XRep E K' w H' :=
 h.x.stay hB hI (fun _ _=>rfl) (fun _b c _ty fz hb=>⟨c,fz,hb,rfl⟩) (Nat.le_refl _) (fun blk hb=>.inl (hd blk hb)) he hE
theorem sd {E:Env} {K:Ctx} {w:World} {H:zz} (h:HRep E K w H) (ob:Obj) (g) (M':Nat) (hM:H.length≤M'):Mv K H.length w (K.push H.length g) M' (w.alloc ob) where
 γ b hb:=K.push_lt g hb
 M:=hM
 I _ hb:=hb
 wc b hb o:=yI (zD w ob (h.low b hb)) o
 cells _b c _ty fz hb:=⟨c,fz,(zD w ob (Array.getElem?_eq_some_iff.1 hb).1).trans hb,rfl⟩
theorem getElem?_snoc {α:Type} (l:List α) (x:α) {i:Nat} {y:α} (h:(l++[x])[i]? = some y):(i<l.length∧l[i]? = some y)∨(i=l.length∧y=x):=by
 rcases Nat.lt_trichotomy i l.length with hi | hi | hi
 · rw [List.getElem?_append_left hi] at h;exact .inl ⟨hi,h⟩
 · subst hi;simp at h;exact .inr ⟨rfl,h.symm⟩
 · rw [List.getElem?_eq_none (by simp;omega)] at h;cases h
theorem HRep.push {E:Env} {K:Ctx} {w:World} {H:zz} (h:HRep E K w H) (ob:Obj) (o:AObj) (base:Nat)
 (ho:tF E (K.push H.length (some (w.heap.size,base))) (H.length+1) (w.alloc ob) (some (w.heap.size,base)) o) (hne:∀ j st,o≠.ext j st:=by intros;intro h;cases h) :
 HRep E (K.push H.length (some (w.heap.size,base))) (w.alloc ob) (H++[o])∧Ev H.length K H w (K.push H.length (some (w.heap.size,base))) (H++[o]) (w.alloc ob):=by
 have hm:=sd h ob (some (w.heap.size,base)) (H.length+1) (Nat.le_succ _)
 have hown1:∀ blk,ws (K.push H.length (some (w.heap.size,base))) (H++[o]) blk→ws K H blk∨blk=w.heap.size:=by
  rintro blk ⟨b,o',base',h1,h2,h3⟩
  rcases getElem?_snoc H o h1 with ⟨hb,h1⟩ | ⟨x1,y1⟩
  · rw [K.push_lt _ hb] at h3;exact .inl ⟨b,o',base',h1,h2,h3⟩
  · subst x1;rw [Ctx.push_eq] at h3;cases h3;exact .inr rfl
 have hown:∀ blk,yb (K.push H.length (some (w.heap.size,base))) (H++[o]) blk→yb K H blk∨blk=w.heap.size:=by
  rintro blk (hb | hb)
  · exact (hown1 blk hb).imp .inl id
  · exact .inl (.inr hb)
 refine ⟨⟨?_,?_,?_,?_,?_,?_⟩,⟨fun b hb=>K.push_lt _ hb,by simp,fun _ h=>h,fun _ h=>.inl h,?_,fun b hb _=>zD w ob hb,by simp,hm.cells,?_,rfl,rfl,rfl⟩⟩
 · intro b o' hb
   rcases getElem?_snoc H o hb with ⟨hlt,hb⟩ | ⟨x1,y1⟩
   · rw [K.push_lt _ hlt,List.length_append]
     refine hm.orep (h.obj b o' hb) fun blk base' e hl=>zD w ob (yE h (.inl ⟨b,o',base',hb,hl,e⟩))
   · subst x1 y1;rw [Ctx.push_eq,List.length_append];exact ho
 · intro b b' o1 o2 blk b1 b2 h1 h2 l1 l2 e1 e2
   rcases getElem?_snoc H o h1 with ⟨hb1,h1⟩ | ⟨x1,y1⟩<;>rcases getElem?_snoc H o h2 with ⟨hb2,h2⟩ | ⟨x2,y2⟩
   · rw [K.push_lt _ hb1] at e1;rw [K.push_lt _ hb2] at e2;exact h.inj b b' o1 o2 blk b1 b2 h1 h2 l1 l2 e1 e2
   · subst x2;rw [K.push_lt _ hb1] at e1;rw [Ctx.push_eq] at e2;cases e2
     exact absurd (yE h (.inl ⟨b,o1,b1,h1,l1,e1⟩)) (Nat.lt_irrefl _)
   · subst x1;rw [K.push_lt _ hb2] at e2;rw [Ctx.push_eq] at e1;cases e1
     exact absurd (yE h (.inl ⟨b',o2,b2,h2,l2,e2⟩)) (Nat.lt_irrefl _)
   · rw [x1,x2]
 · intro blk ho hi
   rcases hown blk ho with ho | rfl
   · exact h.disj blk ho hi
   · exact absurd (h.low _ hi) (Nat.lt_irrefl _)
 · intro blk hi;have:=h.low blk hi;simp;omega
 · intro g
   exact VRep.mono (K:=K) (K':=K.push H.length (some (w.heap.size,base))) (fun b hb=>absurd hb (Nat.not_lt_zero _)) (Nat.le_refl _) (fun _ h=>h) hm.wc hm.cells (h.glob g)
 · refine h.x.stay rfl (fun _ h=>h) (fun b hb=>zD w ob (hb.elim (h.x.low b) (h.low b))) hm.cells (by simp) (fun blk hb=>(hown1 blk hb).imp id (fun e=>by omega)) (fun b j st hb=>?_)
   rcases getElem?_snoc H o hb with ⟨_,hb⟩ | ⟨_,y1⟩
   · exact ⟨b,hb⟩
   · exact absurd y1.symm (hne j st)
 · intro b hb;rcases hown b hb with hb | rfl
   · exact .inl hb
   · exact .inr (Nat.le_refl _)
 · intro b r hb;exact ⟨r,(zD w ob (Array.getElem?_eq_some_iff.1 hb).1).trans hb⟩
structure Touch (blk:Nat) (w w':World):Prop where
 other:∀ b,b≠blk→w'.heap[b]? = w.heap[b]?
 size:w'.heap.size=w.heap.size
 cells:∀ (b:Nat) c ty fz,w.heap[b]? = some (.cells c ty fz)→∃ c' fz',w'.heap[b]? = some (.cells c' ty fz')∧c'.size=c.size
 loops:∀ (b:Nat) r,w.heap[b]? = some (.loop r)→∃ r',w'.heap[b]? = some (.loop r')
 os:w'.os=w.os
 out:w'.output=w.output
theorem HRep.touch {E:Env} {K:Ctx} {w w':World} {H:zz} (h:HRep E K w H) {b blk base:Nat} {o o':AObj} (hb:H[b]? = some o) (hl:o.live) (hg:K.γ b=some (blk,base))
 (ht:Touch blk w w') (hl':o'.live) (ho:Mv K H.length w K H.length w'→tF E K H.length w' (some (blk,base)) o') :
 HRep E K w' (H.set b o')∧Ev H.length K H w K (H.set b o') w':=by
 have hbl:b<H.length:=(List.getElem?_eq_some_iff.1 hb).1
 have ho1:ws K H blk:=⟨b,o,base,hb,hl,hg⟩
 have hown:yb K H blk:=.inl ho1
 have hm:Mv K H.length w K H.length w' :=
  ⟨fun _ _=>rfl,Nat.le_refl _,fun _ h=>h,fun x hx oo=>yI (ht.other x (fun e=>h.disj blk hown (e ▸ hx))) oo,ht.cells⟩
 have hset:∀ (x:Nat) y,(H.set b o')[x]? = some y→(x=b∧y=o')∨(x≠b∧H[x]? = some y):=by
  intro x y hx
  rw [List.getElem?_set] at hx
  by_cases e:b=x
  · subst e;simp [hbl] at hx;exact .inl ⟨rfl,hx.symm⟩
  · rw [if_neg e] at hx;exact .inr ⟨fun h=>e h.symm,hx⟩
 have hown1:∀ x,ws K (H.set b o') x→ws K H x:=by
  rintro x ⟨i,oi,bi,h1,h2,h3⟩
  rcases hset i oi h1 with ⟨rfl,rfl⟩ | ⟨hne,h1⟩
  · exact ⟨_,o,bi,hb,hl,h3⟩
  · exact ⟨i,oi,bi,h1,h2,h3⟩
 have hown':∀ x,yb K (H.set b o') x→yb K H x:=fun x hx=>hx.imp (hown1 x) id
 refine ⟨⟨?_,?_,fun x hx=>h.disj x (hown' x hx),fun x hx=>by rw [ht.size];exact h.low x hx,?_,?_⟩,
  ⟨fun _ _=>rfl,by simp,fun _ h=>h,fun _ h=>.inl h,fun x hx=>.inl (hown' x hx),fun x _ hn=>ht.other x (fun e=>hn (e ▸ hown)),by rw [ht.size];exact Nat.le_refl _,ht.cells,ht.loops,ht.os,ht.out,rfl⟩⟩
 · intro i oi hi
   rw [List.length_set]
   rcases hset i oi hi with ⟨e1,e2⟩ | ⟨hne,hi⟩
   · subst e1 e2;rw [hg];exact ho hm
   · refine hm.orep (h.obj i oi hi) fun blk' base' e hl''=>ht.other _ fun e'=>?_
     subst e'
     exact hne (h.inj i b oi o _ _ _ hi hb hl'' hl e hg)
 · intro i i' o1 o2 x b1 b2 h1 h2 l1 l2 e1 e2
   have f1:∃ o1',H[i]? = some o1'∧o1'.live:=by
    rcases hset i o1 h1 with ⟨e1,_⟩ | ⟨_,h1⟩
    · subst e1;exact ⟨o,hb,hl⟩
    · exact ⟨o1,h1,l1⟩
   have f2:∃ o2',H[i']? = some o2'∧o2'.live:=by
    rcases hset i' o2 h2 with ⟨e1,_⟩ | ⟨_,h2⟩
    · subst e1;exact ⟨o,hb,hl⟩
    · exact ⟨o2,h2,l2⟩
   obtain ⟨p1,q1,r1⟩:=f1
   obtain ⟨p2,q2,r2⟩:=f2
   exact h.inj i i' p1 p2 x b1 b2 q1 q2 r1 r2 e1 e2
 · intro g
   exact VRep.mono (K':=K) (fun b hb=>absurd hb (Nat.not_lt_zero _)) (Nat.le_refl _) (fun _ h=>h) hm.wc hm.cells (h.glob g)
 · refine h.x.stay rfl (fun _ h=>h) (fun x hx=>ht.other x ?_) ht.cells (by rw [ht.size];exact Nat.le_refl _) (fun x hx=>.inl (hown1 x hx)) (fun x j st hx=>?_)
   · rintro rfl
     exact hx.elim (h.x.dis _ ho1) (h.disj _ hown)
   · rcases hset x _ hx with ⟨_,e⟩ | ⟨_,hx⟩
     · subst e;exact hl'.elim
     · exact ⟨x,hx⟩
theorem touch_setRow (w:World) (blk:Nat) (c c':Array Value) (ty:TypeId) (fz:Nat × Nat) (h:w.heap[blk]? = some (.cells c ty fz)) (hs:c'.size=c.size):Touch blk w (w.setRow blk c') where
 other b hb:=setRow_other w blk b c' hb
 size:=by simp
 cells b c0 ty0 fz0 hb:=by
  by_cases e:b=blk
  · subst e;rw [h] at hb;cases hb;exact ⟨c',_,setRow_heap w b c c' ty fz h,hs⟩
  · exact ⟨c0,_,(setRow_other w blk b c' e).trans hb,rfl⟩
 loops b r hb:=by
  by_cases e:b=blk
  · subst e;rw [h] at hb;cases hb
  · exact ⟨r,(setRow_other w blk b c' e).trans hb⟩
 os:=rfl
 out:=rfl
theorem HRep.kill {E:Env} {K:Ctx} {w:World} {H:zz} (h:HRep E K w H) (b:Nat):HRep E K w (H.set b .dead)∧Ev H.length K H w K (H.set b .dead) w:=by
 have hset:∀ (x:Nat) y,(H.set b .dead)[x]? = some y→y=.dead∨H[x]? = some y:=by
  intro x y hx
  rw [List.getElem?_set] at hx
  by_cases e:b=x
  · subst e;split at hx
    · split at hx
      · cases hx;exact .inl rfl
      · cases hx
    · exact .inr hx
  · rw [if_neg e] at hx;exact .inr hx
 have hown1:∀ x,ws K (H.set b .dead) x→ws K H x:=by
  rintro x ⟨i,oi,bi,h1,h2,h3⟩
  rcases hset i oi h1 with rfl | h1
  · exact absurd h2 (by simp [AObj.live])
  · exact ⟨i,oi,bi,h1,h2,h3⟩
 have hown':∀ x,yb K (H.set b .dead) x→yb K H x:=fun x hx=>hx.imp (hown1 x) id
 refine ⟨⟨?_,?_,fun x hx=>h.disj x (hown' x hx),h.low,h.glob,h.x.stay rfl (fun _ h=>h) (fun _ _=>rfl) (fun b c ty fz h=>⟨c,fz,h,rfl⟩) (Nat.le_refl _) (fun x hx=>.inl (hown1 x hx)) (fun x j st hx=>(hset x _ hx).elim (fun e=>nomatch e) (fun h=>⟨x,h⟩))⟩,{ Ev.refl H.length K H w (Nat.le_refl _) with len:=by simp,own:=fun x hx=>.inl (hown' x hx) }⟩
 · intro i oi hi
   rw [List.length_set]
   rcases hset i oi hi with rfl | hi
   · exact .dead _
   · exact h.obj i oi hi
 · intro i i' o1 o2 x b1 b2 h1 h2 l1 l2 e1 e2
   rcases hset i o1 h1 with rfl | h1
   · exact absurd l1 (by simp [AObj.live])
   rcases hset i' o2 h2 with rfl | h2
   · exact absurd l2 (by simp [AObj.live])
   exact h.inj i i' o1 o2 x b1 b2 h1 h2 l1 l2 e1 e2
theorem HRep.drew {E:Env} {K:Ctx} {w:World} {H:zz} (h:HRep E K w H):HRep E K w.drew H∧Ev H.length K H w K H w.drew:=by
 have hm:Mv K H.length w K H.length w.drew:=⟨fun _ _=>rfl,Nat.le_refl _,fun _ h=>h,fun _ _ _=>rfl,fun b c ty fz h=>⟨c,fz,h,rfl⟩⟩
 refine ⟨⟨fun b o hb=>hm.orep (h.obj b o hb) (fun _ _ _ _=>rfl),h.inj,h.disj,h.low,fun g=>?_,h.x.stay rfl (fun _ h=>h) (fun _ _=>rfl) (fun b c ty fz h=>⟨c,fz,h,rfl⟩) (Nat.le_refl _) (fun x hx=>.inl hx) (fun x j st hx=>⟨x,hx⟩)⟩,⟨fun _ _=>rfl,Nat.le_refl _,fun _ h=>h,fun _ h=>.inl h,fun _ h=>.inl h,fun _ _ _=>rfl,Nat.le_refl _,hm.cells,fun b r h=>⟨r,h⟩,rfl,rfl,rfl⟩⟩
 exact VRep.mono (K':=K) (fun b hb=>absurd hb (Nat.not_lt_zero _)) (Nat.le_refl _) (fun _ h=>h) hm.wc hm.cells (h.glob g)
end Go.Am
end
section
namespace Go.Am
section
variable {E:Env} {K:Ctx} {w:World} {H:zz} {M:Nat}
def yM (E:Env) (K:Ctx) (H:zz) (w:World) (s:Sem Next) (v:AV) (H':zz):Prop :=
 ∃ y w' K',(s.run E.P w=.ok (.value y) w'∨(s.run E.P w=.ok .skip w'∧y=undef))∧VRep K' H'.length w' v y∧HRep E K' w' H'∧Ev H.length K H w K' H' w'
theorem zi (h:HRep E K w H) {s:Sem Next} {v:AV} {y:Value} (hr:s.run E.P w=.ok (.value y) w) (hv:VRep K H.length w v y):yM E K H w s v H :=
 ⟨y,w,K,.inl hr,hv,h,Ev.refl _ _ _ _ (Nat.le_refl _)⟩
theorem one_cell {c:AV} {z:Value} (h:VRep K M w c z) (h1:c.one=true):z.oneCell'=true:=by
 cases h<;>first | rfl | (simp [AV.one] at h1;done) | exact h1
theorem cells_rep {x:AV} {y:Value} (h:VRep K M w x y) (h1:x.cells.all AV.one=true) :
 y.cells.size=x.cells.length∧(∀ (j:Nat) c,x.cells[j]? = some c→∃ z,y.cells[j]? = some z∧VRep K M w c z)∧∀ z∈y.cells.toList,z.oneCell'=true:=by
 have single:∀ {x:AV} {y:Value},VRep K M w x y→x.cells=[x]→y.cells = #[y]→x.one=true →
  y.cells.size=x.cells.length∧(∀ (j:Nat) c,x.cells[j]? = some c→∃ z,y.cells[j]? = some z∧VRep K M w c z)∧∀ z∈y.cells.toList,z.oneCell'=true:=by
  intro x y h e1 e2 h1
  rw [e1,e2]
  refine ⟨rfl,fun j c hj=>?_,fun z hz=>?_⟩
  · cases j with
    | zero=>simp at hj;subst hj;exact ⟨y,rfl,h⟩
    | succ j=>simp at hj
  · simp at hz;subst hz;exact one_cell h h1
 cases h with
 | undef=>simp [AV.cells,AV.one] at h1
 | tup=>simp [AV.cells,AV.one] at h1
 | agg cs ys hl hh =>
  refine ⟨by simp [Value.cells,AV.cells,hl],fun j c hj=>?_,fun z hz=>?_⟩
  · have hjl:j<ys.length:=by rw [← hl];exact (List.getElem?_eq_some_iff.1 hj).1
    exact ⟨ys[j],by simp [Value.cells,hjl],hh j c _ hj (List.getElem?_eq_getElem hjl)⟩
  · simp only [Value.cells] at hz
    obtain ⟨j,hj,e⟩:=List.mem_iff_getElem.1 hz
    have hj':j<ys.length:=hj
    have hc:cs[j]? = some cs[j]:=List.getElem?_eq_getElem (by omega)
    have:=hh j _ ys[j] hc (List.getElem?_eq_getElem hj')
    have e':ys[j]=z:=e
    rw [← e']
    exact one_cell this (by simp [AV.cells] at h1;exact h1 _ (List.getElem_mem _))
 | val _ hv=>exact single (.val _ hv) rfl (by cases y<;>first | rfl | exact absurd rfl (hv _)) (by simpa [AV.cells] using h1)
 | ptr b off blk base hM hg=>exact single (.ptr b off blk base hM hg) rfl rfl rfl
 | eptr b k i j blk base hM hg=>exact single (.eptr b k i j blk base hM hg) rfl rfl rfl
 | iptr cs f blk off hI hc hh=>exact single (.iptr cs f blk off hI hc hh) rfl rfl rfl
 | slnil b k lo hM=>exact single (.slnil b k lo hM) rfl rfl rfl
 | sl0 b k lo a hM=>exact single (.sl0 b k lo a hM) rfl rfl rfl
 | sl b k lo len cap blk base hM hg hle hs=>exact single (.sl b k lo len cap blk base hM hg hle hs) rfl rfl rfl
 | slc b k lo len cap blk base hM hg hle hs=>exact single (.slc b k lo len cap blk base hM hg hle hs) rfl rfl rfl
 | islnil k=>exact single (.islnil k) rfl rfl rfl
 | isl k es f a cap hle hI hk hc hh=>exact single (.isl k es f a cap hle hI hk hc hh) rfl rfl rfl
 | fn f cs ys hl hh=>exact single (.fn f cs ys hl hh) rfl rfl rfl
 | yld l blk base hM hg=>exact single (.yld l blk base hM hg) rfl rfl rfl
 | iface t v y hh=>exact single (.iface t v y hh) rfl rfl rfl
 | amap b blk base hM hg=>exact single (.amap b blk base hM hg) rfl rfl rfl
 | bsh t b blk c fz hM hg hc hn=>exact single (.bsh t b blk c fz hM hg hc hn) rfl rfl rfl
 | bsh1 t b blk c fz hM hg hc hn=>exact single (.bsh1 t b blk c fz hM hg hc hn) rfl rfl rfl
 | bsl e b n blk cap c fz hM hg hc hn hcap=>exact single (.bsl e b n blk cap c fz hM hg hc hn hcap) rfl rfl rfl
 | intq n=>exact single (.intq n) rfl rfl rfl
theorem zY {P:Program} {t:TypeId} {d:TypeDesc} (h:P.underlying t=some d) (w:World):(underlying t).run P w=.ok d w:=by
 simp [underlying,h]
theorem run_info {P:Program} {t:TypeId} {i:TypeInfo} (h:P.info? t=some i) (w:World):(typeInfo t).run P w=.ok i w:=by
 simp [typeInfo,h]
theorem xy {P:Program} {t:TypeId} {i:TypeInfo} (h:P.info? t=some i) (w:World):(sizeOf t).run P w=.ok i.size w:=by
 simp [sizeOf,run_info h]
theorem uw {P:Program} {t:TypeId} {i:TypeInfo} {z:Value} (h:P.info? t=some i) (hz:i.zero=some z) (w:World):(zeroValue t).run P w=.ok z w:=by
 simp [zeroValue,run_info h,hz]
theorem run_agg {P:Program} {t:TypeId} {d:TypeDesc} (h:P.underlying t=some d) (w:World):(isAgg t).run P w=.ok (xI d) w:=by
 unfold isAgg
 rw [Sem.run_bind,zY h w]
 cases d<;>rfl
theorem szAgg_some {P:Program} {t:TypeId} {k:Nat} {a:Bool} (h:vJ P t=some (k,a)):∃ i d,P.info? t=some i∧P.underlying t=some d∧i.size=k∧xI d=a:=by
 unfold vJ at h
 split at h
 · rename_i i d h1 h2;cases h;exact ⟨i,d,h1,h2,rfl,rfl⟩
 · cases h
theorem xZ (blk off j:Nat):(⟨blk,off,none⟩:Addr).add j=⟨blk,off+j,none⟩:=by unfold Addr.add;split<;>simp_all
def Reads (K:Ctx) (M:Nat) (w:World) (blk off:Nat) (cs:List AV):Prop :=
 ∀ (j:Nat) c,cs[j]? = some c→∃ z,w.cell? ⟨blk,off+j,none⟩=some z∧VRep K M w c z
theorem Reads.drop {blk off:Nat} {cs:List AV} (h:Reads K M w blk off cs) (n:Nat):Reads K M w blk (off+n) (cs.drop n):=by
 intro j c hj
 rw [List.getElem?_drop] at hj
 have:=h _ c hj
 rwa [← Nat.add_assoc] at this
theorem vE {P:Program} {t:TypeId} {k:Nat} {agg:Bool} (ht:vJ P t=some (k,agg)) {blk off o:Nat} {cs:List AV} (h:Reads K M w blk off cs) {v:AV}
 (hv:vm cs o k agg=some v):∃ y,(loadVar t ⟨blk,off+o,none⟩).run P w=.ok y w∧VRep K M w v y:=by
 obtain ⟨i,d,hi,hd,rfl,rfl⟩:=szAgg_some ht
 have h:=h.drop o
 unfold vm at hv
 unfold loadVar
 rw [Sem.run_bind,run_agg hd]
 simp only [Result.andThen_ok]
 cases ha:xI d with
 | true =>
  simp only [ha,if_true] at hv ⊢
  split at hv
  · rename_i hle
    cases hv
    have hle':o+i.size≤cs.length:=by simpa using hle
    have hlen:((cs.drop o).take i.size).length=i.size:=by simp;omega
    -- the values that lie there
    have hex:∃ f:Nat→Value,∀ j,j<i.size→w.cell? ⟨blk,off+o+j,none⟩=some (f j)∧VRep K M w (((cs.drop o).take i.size).getD j .undef) (f j):=by
     have:∀ j,∃ z,j<i.size→w.cell? ⟨blk,off+o+j,none⟩=some z∧VRep K M w (((cs.drop o).take i.size).getD j .undef) z:=by
      intro j
      by_cases hj:j<i.size
      · have hj':j<(cs.drop o).length:=by simp;omega
        obtain ⟨z,h1,h2⟩:=h j _ (List.getElem?_eq_getElem hj')
        refine ⟨z,fun _=>⟨h1,?_⟩⟩
        rw [List.getD_eq_getElem?_getD,List.getElem?_take,if_pos hj,List.getElem?_eq_getElem hj']
        exact h2
      · exact ⟨undef,fun h=>absurd h hj⟩
     exact ⟨fun j=>(this j).choose,fun j hj=>(this j).choose_spec hj⟩
    obtain ⟨f,hf⟩:=hex
    refine ⟨.agg ((List.range i.size).map f).toArray,?_,?_⟩
    · simp only [Sem.run_bind,xy hi,Result.andThen_ok]
      rw [run_loadCells w ⟨blk,off+o,none⟩ i.size f (fun j hj=>by rw [xZ];exact (hf j hj).1)]
      simp
    · refine .agg _ _ (by simp;omega) (fun j c y hc hy=>?_)
      have hj:j<i.size:=by rw [← hlen];exact (List.getElem?_eq_some_iff.1 hc).1
      have h2:=(hf j hj).2
      rw [List.getD_eq_getElem?_getD,hc] at h2
      simp [hj] at hy
      subst hy
      exact h2
  · cases hv
 | false =>
  simp only [ha,Bool.false_eq_true,if_false] at hv ⊢
  cases hdr:cs.drop o with
  | nil=>rw [hdr] at hv;cases hv
  | cons x r =>
   rw [hdr] at hv h
   cases hv
   obtain ⟨z,h1,h2⟩:=h 0 _ rfl
   refine ⟨z,?_,h2⟩
   simp only [run_load,Nat.add_zero] at h1 ⊢
   rw [h1]
theorem reads_iptr {cs:List AV} {y:Value} (h:VRep K M w (.iptr cs) y):∃ blk off,y=.pointer (some ⟨blk,off,none⟩)∧Reads K M w blk off cs:=by
 cases h with
 | iptr cs f blk off hI hc hh=>exact ⟨blk,off,rfl,fun j c hj=>⟨f j,hc j c hj,hh j c hj⟩⟩
theorem lies_reads {blk:Nat} {c:Array Value} {ty:TypeId} {fz:Nat × Nat} (h:w.heap[blk]? = some (.cells c ty fz)) {p:Nat} {cs:List AV} (hl:vB K M w c p cs):Reads K M w blk p cs:=by
 intro j x hj
 obtain ⟨y,h1,h2⟩:=hl j x hj
 exact ⟨y,by simp [World.cell?,h,h1],h2⟩
theorem cellsOf_some {b:Nat} {cs:List AV} (h:cellsOf H b=some cs):H[b]? = some (.cells cs):=by
 unfold cellsOf at h;split at h
 · rename_i cs' e;cases h;exact e
 · cases h
theorem xr {b k:Nat} {es:List AV} (h:xj H b k=some es):H[b]? = some (.arr k es):=by
 unfold xj at h;split at h
 · rename_i k' es' e;split at h
   · rename_i hk;cases h;rw [e,Nat.eq_of_beq_eq_true hk]
   · cases h
 · cases h
theorem HRep.cells (h:HRep E K w H) {b blk base:Nat} {cs:List AV} (hb:H[b]? = some (.cells cs)) (hg:K.γ b=some (blk,base)) :
 ∃ c ty,w.heap[blk]? = some (.cells c ty (0,0))∧vB K H.length w c base cs:=by
 have:=h.obj b _ hb
 rw [hg] at this
 cases this with
 | cells _ _ _ c ty hh hl=>exact ⟨c,ty,hh,hl⟩
theorem HRep.arr (h:HRep E K w H) {b k blk base:Nat} {es:List AV} (hb:H[b]? = some (.arr k es)) (hg:K.γ b=some (blk,base)) :
 ∃ c ty,w.heap[blk]? = some (.cells c ty (0,0))∧(∀ (i:Nat) e,es[i]? = some e→e.cells.length=k)∧∀ (i:Nat) e,es[i]? = some e→vB K H.length w c (base+i * k) e.cells:=by
 have:=h.obj b _ hb
 rw [hg] at this
 cases this with
 | arr _ _ _ _ c ty hh hk hl=>exact ⟨c,ty,hh,hk,hl⟩
theorem reads_ptr (h:HRep E K w H) {b off:Nat} {y:Value} (hp:VRep K H.length w (.ptr b off) y) {cs:List AV} (hb:cellsOf H b=some cs) :
 ∃ blk base,y=.pointer (some ⟨blk,base+off,none⟩)∧Reads K H.length w blk base cs∧K.γ b=some (blk,base):=by
 cases hp with
 | ptr _ _ blk base hM hg =>
  obtain ⟨c,ty,hh,hl⟩:=h.cells (cellsOf_some hb) hg
  exact ⟨blk,base,rfl,lies_reads hh hl,hg⟩
theorem reads_eptr (h:HRep E K w H) {b k i j:Nat} {y:Value} (hp:VRep K H.length w (.eptr b k i j) y) {es:List AV} (hb:xj H b k=some es) (hi:i<es.length) :
 ∃ blk base,y=.pointer (some ⟨blk,base+(i * k+j),none⟩)∧Reads K H.length w blk (base+i * k) (es.getD i .undef).cells∧K.γ b=some (blk,base):=by
 cases hp with
 | eptr _ _ _ _ blk base hM hg =>
  obtain ⟨c,ty,hh,hk,hl⟩:=h.arr (xr hb) hg
  have he:es[i]? = some (es.getD i .undef):=by rw [List.getD_eq_getElem?_getD,List.getElem?_eq_getElem hi];rfl
  exact ⟨blk,base,rfl,lies_reads hh (hl i _ he),hg⟩
theorem ok_ld (h:HRep E K w H) {t:TypeId} {k:Nat} {agg:Bool} (ht:vJ E.P t=some (k,agg)) {x:AV} {y:Value} (hx:VRep K H.length w x y) {v:AV} {H':zz} {F:AFr} {ox:Opd} (hox:ox.ev E.G F=x)
 (he:zr E.G (.ld k agg ox) F H=some (true,v,H')):yM E K H w (do let a ← Instr.loadAt t y;pure (.value a)) v H':=by
 simp only [zr,hox,ans] at he
 cases x with
 | iptr cs =>
  dsimp only at he
  split at he
  · rename_i v' hv;cases he
    obtain ⟨blk,off,rfl,hr⟩:=reads_iptr hx
    obtain ⟨z,h1,h2⟩:=vE ht hr hv
    exact zi h (by simpa [Instr.loadAt,Instr.sureAddr] using congrArg (fun r=>Result.andThen r fun a w'=>.ok (Next.value a) w') h1) h2
  · cases he
 | ptr b off =>
  dsimp only at he
  split at he
  · rename_i cs hb
    split at he
    · rename_i v' hv;cases he
      obtain ⟨blk,base,rfl,hr,_⟩:=reads_ptr h hx hb
      obtain ⟨z,h1,h2⟩:=vE ht hr hv
      exact zi h (by simpa [Instr.loadAt,Instr.sureAddr] using congrArg (fun r=>Result.andThen r fun a w'=>.ok (Next.value a) w') h1) h2
    · cases he
  · cases he
 | eptr b k' i j =>
  dsimp only at he
  split at he
  · rename_i es hb
    split at he
    · rename_i v' hv;simp at he;obtain ⟨hi,rfl,rfl⟩:=he
      obtain ⟨blk,base,rfl,hr,_⟩:=reads_eptr h hx hb hi
      obtain ⟨z,h1,h2⟩:=vE ht hr hv
      rw [Nat.add_assoc] at h1
      exact zi h (by simpa [Instr.loadAt,Instr.sureAddr] using congrArg (fun r=>Result.andThen r fun a w'=>.ok (Next.value a) w') h1) h2
    · cases he
  · cases he
 | _=>cases he
end
end Go.Am
end
section
namespace Go.Am
section
variable {E:Env} {K:Ctx} {w:World} {H:zz} {M:Nat}
theorem ok_box (h:HRep E K w H) (t:TypeId) {x:AV} {y:Value} (hx:VRep K H.length w x y) (h1:x.cells.all AV.one=true) {s:Sem Next}
 (hs:s.run E.P w=.ok (.value (.pointer (some ⟨w.heap.size,0,none⟩))) (w.alloc (.cells y.cells t))) :
 yM E K H w s (.ptr H.length 0) (H++[.cells x.cells]):=by
 obtain ⟨hsz,hc,_⟩:=cells_rep hx h1
 have hm:=sd h (.cells y.cells t) (some (w.heap.size,0)) (H.length+1) (Nat.le_succ _)
 obtain ⟨h2,ev⟩:=h.push (.cells y.cells t) (.cells x.cells) 0 (.cells _ _ _ _ _ (yR w _) (fun j c hj=>by
  obtain ⟨z,e1,e2⟩:=hc j c hj
  exact ⟨z,by simpa using e1,hm.rep e2⟩))
 refine ⟨_,_,_,.inl hs,?_,h2,ev⟩
 have:=VRep.ptr (K:=K.push H.length (some (w.heap.size,0))) (M:=(H++[AObj.cells x.cells]).length) (w:=w.alloc (.cells y.cells t)) H.length 0 w.heap.size 0 (by simp) (Ctx.push_eq _ _ _)
 simpa using this
theorem xd {α:Type} (l vs:List α) (o j:Nat) (h:o+vs.length≤l.length) :
 (l.take o++vs++l.drop (o+vs.length))[j]? = if j<o then l[j]? else if j<o+vs.length then vs[j - o]? else l[j]?:=by
 have hto:(l.take o).length=o:=by simp;omega
 by_cases h1:j<o
 · rw [if_pos h1,List.append_assoc,List.getElem?_append_left (by omega),List.getElem?_take,if_pos h1]
 · rw [if_neg h1,List.append_assoc,List.getElem?_append_right (by omega),hto]
   by_cases h2:j<o+vs.length
   · rw [if_pos h2,List.getElem?_append_left (by omega)]
   · rw [if_neg h2,List.getElem?_append_right (by omega),List.getElem?_drop]
     congr 1;omega
def yW (K:Ctx) (M:Nat) (w:World) (cs:List AV) (zs:List Value):Prop :=
 zs.length=cs.length∧∀ (j:Nat) c,cs[j]? = some c→∃ z,zs[j]? = some z∧VRep K M w c z
theorem uQ {x:AV} {y:Value} (h:VRep K M w x y) (h1:x.cells.all AV.one=true):yW K M w x.cells y.cells.toList∧∀ z∈y.cells.toList,z.oneCell'=true:=by
 obtain ⟨a,b,c⟩:=cells_rep h h1
 exact ⟨⟨by simpa using a,fun j x hj=>by obtain ⟨z,e1,e2⟩:=b j x hj;exact ⟨z,by simpa using e1,e2⟩⟩,c⟩
theorem lies_in {c:Array Value} {p:Nat} {cs:List AV} (h:vB K M w c p cs) {j:Nat} (hj:j<cs.length):p+j<c.size:=by
 obtain ⟨y,h1,_⟩:=h j _ (List.getElem?_eq_getElem hj)
 exact (Array.getElem?_eq_some_iff.1 h1).1
theorem lies_put {w':World} (m:Mv K M w K M w') {c:Array Value} {base off:Nat} {cs vs:List AV} {zs:List Value} (hl:vB K M w c base cs) (hle:off+vs.length≤cs.length)
 (hv:yW K M w vs zs) (hfit:base+off+zs.length≤c.toList.length) :
 vB K M w' (c.toList.take (base+off)++zs++c.toList.drop (base+off+zs.length)).toArray base (ul cs off vs):=by
 intro j x hj
 rw [List.getElem?_toArray,xd _ _ _ _ hfit]
 unfold ul at hj
 rw [xd _ _ _ _ hle] at hj
 have hz:=hv.1
 by_cases h1:j<off
 · rw [if_pos h1] at hj
   rw [if_pos (by omega)]
   obtain ⟨y,e1,e2⟩:=hl j x hj
   exact ⟨y,by simpa using e1,m.rep e2⟩
 · rw [if_neg h1] at hj
   rw [if_neg (by omega)]
   by_cases h2:j<off+vs.length
   · rw [if_pos h2] at hj
     rw [if_pos (by omega)]
     obtain ⟨z,e1,e2⟩:=hv.2 _ x hj
     exact ⟨z,by rw [show base+j - (base+off)=j - off by omega];exact e1,m.rep e2⟩
   · rw [if_neg h2] at hj
     rw [if_neg (by omega)]
     obtain ⟨y,e1,e2⟩:=hl j x hj
     exact ⟨y,by simpa using e1,m.rep e2⟩
theorem tg {w':World} (m:Mv K M w K M w') {c:Array Value} {p o:Nat} {cs:List AV} {zs:List Value} (hl:vB K M w c p cs) (hout:p+cs.length≤o∨o+zs.length≤p)
 (hfit:o+zs.length≤c.toList.length):vB K M w' (c.toList.take o++zs++c.toList.drop (o+zs.length)).toArray p cs:=by
 intro j x hj
 have hjl:=(List.getElem?_eq_some_iff.1 hj).1
 rw [List.getElem?_toArray,xd _ _ _ _ hfit]
 obtain ⟨y,e1,e2⟩:=hl j x hj
 refine ⟨y,?_,m.rep e2⟩
 rcases hout with h | h
 · rw [if_pos (by omega)];simpa using e1
 · rw [if_neg (by omega),if_neg (by omega)];simpa using e1
theorem vw (c:Array Value) (zs:List Value) (o:Nat) (h:o+zs.length≤c.toList.length) :
 (c.toList.take o++zs++c.toList.drop (o+zs.length)).toArray.size=c.size:=by
 simp at h ⊢;omega
theorem run_storeVar {P:Program} {t:TypeId} {i:TypeInfo} (hi:P.info? t=some i) {blk o:Nat} {c:Array Value} {ty:TypeId} (hb:w.heap[blk]? = some (.cells c ty (0,0))) {y:Value}
 (hn:y.cells.size=i.size) (hle:o+y.cells.toList.length≤c.toList.length) (h1:∀ z∈y.cells.toList,z.oneCell'=true) :
 (storeVar t ⟨blk,o,none⟩ y).run P w=.ok () (w.setRow blk (c.toList.take o++y.cells.toList++c.toList.drop (o+y.cells.toList.length)).toArray):=by
 have hst:=run_storeCells_at P blk o ty y.cells.toList 0 c w hb (by simpa using hle) h1
 simp only [Nat.add_zero] at hst
 unfold storeVar
 rw [Sem.run_bind,xy hi]
 simp only [Result.andThen_ok]
 rw [if_neg (by simp [hn])]
 exact hst
theorem wh {i j k:Nat} (h:i<j):i * k+k≤j * k:=by
 have:(i+1) * k≤j * k:=Nat.mul_le_mul_right k h
 rwa [Nat.succ_mul] at this
theorem ok_st (h:HRep E K w H) {t:TypeId} {i:TypeInfo} (hi:E.P.info? t=some i) {x v:AV} {y z:Value} (hx:VRep K H.length w x y) (hv:VRep K H.length w v z) {H':zz} {r:AV} {F:AFr}
 {ox ov:Opd} (hox:ox.ev E.G F=x) (hov:ov.ev E.G F=v) (he:zr E.G (.st i.size ox ov) F H=some (true,r,H')) :
 yM E K H w (do Instr.storeAt t y z;pure .skip) r H':=by
 simp only [zr,hox,hov] at he
 have done:∀ {blk base o:Nat} {ob ob':AObj} {b:Nat} {c:Array Value} {ty:TypeId},y=.pointer (some ⟨blk,o,none⟩)→H[b]? = some ob→ob.live→ob'.live→K.γ b=some (blk,base) →
  w.heap[blk]? = some (.cells c ty (0,0))→o+z.cells.toList.length≤c.toList.length→z.cells.size=i.size→(∀ u∈z.cells.toList,u.oneCell'=true) →
  (∀ c',c'=(c.toList.take o++z.cells.toList++c.toList.drop (o+z.cells.toList.length)).toArray→Mv K H.length w K H.length (w.setRow blk c') →
   (w.setRow blk c').heap[blk]? = some (.cells c' ty (0,0))→tF E K H.length (w.setRow blk c') (some (blk,base)) ob') →
  yM E K H w (do Instr.storeAt t y z;pure .skip) .undef (H.set b ob'):=by
  intro blk base o ob ob' b c ty hy hb hl hl' hg hheap hle hsz h1 hob
  subst hy
  have hrun:=run_storeVar hi hheap hsz hle h1
  have ht:=touch_setRow w blk c _ ty (0,0) hheap (vw c z.cells.toList o hle)
  obtain ⟨h2,ev⟩:=h.touch hb hl hg ht hl' (fun m=>hob _ rfl m (setRow_heap w blk c _ ty (0,0) hheap))
  exact ⟨undef,_,K,.inr ⟨by simp [Instr.storeAt,Instr.sureAddr,hrun],rfl⟩,.undef _,h2,ev⟩
 cases x with
 | ptr b off =>
  dsimp only at he
  split at he
  · rename_i cs hb
    simp only [Option.some.injEq,Prod.mk.injEq,Bool.and_eq_true] at he
    obtain ⟨⟨⟨⟨e0,e1⟩,e2⟩,e3⟩,rfl,rfl⟩:=he
    have hp:1≤i.size:=Nat.le_of_ble_eq_true e0
    have hk:v.cells.length=i.size:=Nat.eq_of_beq_eq_true e1
    have hle:off+i.size≤cs.length:=Nat.le_of_ble_eq_true e2
    obtain ⟨hcr,h1⟩:=uQ hv e3
    have hzl:z.cells.toList.length=i.size:=by rw [hcr.1,hk]
    cases hx with
    | ptr _ _ blk base hM hg =>
     obtain ⟨c,ty,hheap,hl⟩:=h.cells (cellsOf_some hb) hg
     have hfit:base+off+z.cells.toList.length≤c.toList.length:=by
      have:=lies_in hl (j:=off+i.size - 1) (by omega)
      simp at this hzl ⊢;omega
     refine done rfl (cellsOf_some hb) trivial trivial hg hheap hfit (by simpa using hzl) h1 ?_
     intro c' hc' m hh
     subst hc'
     exact .cells _ _ _ _ _ hh (lies_put m hl (by omega) hcr hfit)
  · cases he
 | eptr b k' i' j =>
  dsimp only at he
  split at he
  · rename_i es hb
    -- one element is put anew
    have main:∀ e':AV,1≤i.size→i'<es.length→v.cells.length=i.size→j+i.size≤k'→v.cells.all AV.one=true→(∀ e,es[i']? = some e→e'.cells=ul e.cells j v.cells) →
     yM E K H w (do Instr.storeAt t y z;pure .skip) .undef (H.set b (.arr k' (es.set i' e'))):=by
     intro e' hp hi' hk hjk h1v he'
     obtain ⟨hcr,h1⟩:=uQ hv h1v
     have hzl:z.cells.toList.length=i.size:=by rw [hcr.1,hk]
     cases hx with
     | eptr _ _ _ _ blk base hM hg =>
      obtain ⟨c,ty,hheap,hkk,hl⟩:=h.arr (xr hb) hg
      have hei:es[i']? = some es[i']:=List.getElem?_eq_getElem hi'
      have hlen:es[i'].cells.length=k':=hkk _ _ hei
      have hli:=hl i' _ hei
      have hfit:base+i' * k'+j+z.cells.toList.length≤c.toList.length:=by
       have:=lies_in hli (j:=j+i.size - 1) (by omega)
       simp at this hzl ⊢;omega
      have eo:base+(i' * k'+j)=base+i' * k'+j:=by omega
      refine done (o:=base+i' * k'+j) (ob':=.arr k' (es.set i' e')) (by rw [eo]) (xr hb) trivial trivial hg hheap hfit (by simpa using hzl) h1 ?_
      intro c' hc' m hh
      subst hc'
      have hput:e'.cells=ul es[i'].cells j v.cells:=he' _ hei
      have hset:∀ (q:Nat) e,(es.set i' e')[q]? = some e→(q=i'∧e=e')∨(q≠i'∧es[q]? = some e):=by
       intro q e hq
       rw [List.getElem?_set] at hq
       by_cases e1:i'=q
       · rw [if_pos e1] at hq;subst e1;simp [hi'] at hq;exact .inl ⟨rfl,hq.symm⟩
       · rw [if_neg e1] at hq;exact .inr ⟨fun e=>e1 e.symm,hq⟩
      refine .arr _ _ _ _ _ _ hh ?_ ?_
      · intro q e hq
        rcases hset q e hq with ⟨rfl,rfl⟩ | ⟨_,hq⟩
        · rw [hput,ul];simp;omega
        · exact hkk q e hq
      · intro q e hq
        rcases hset q e hq with ⟨e1,e2⟩ | ⟨hne,hq⟩
        · subst e1 e2;rw [hput];exact lies_put m hli (by omega) hcr hfit
        · refine tg m (hl q e hq) ?_ hfit
          rw [hkk q e hq]
          rcases Nat.lt_or_gt_of_ne hne with hlt | hlt
          · have:=wh (k:=k') hlt;left;omega
          · have:=wh (k:=k') hlt;right;omega
    split at he
    · rename_i hkj
      simp only [Bool.and_eq_true] at hkj
      obtain ⟨hk1,hj1⟩:=hkj
      have hk1:=Nat.eq_of_beq_eq_true hk1
      have hj1:=Nat.eq_of_beq_eq_true hj1
      simp only [Option.some.injEq,Prod.mk.injEq,Bool.and_eq_true,decide_eq_true_eq] at he
      obtain ⟨⟨⟨⟨e0,ei⟩,e1⟩,e3⟩,rfl,rfl⟩:=he
      have hk:v.cells.length=i.size:=Nat.eq_of_beq_eq_true e1
      refine main v (Nat.le_of_ble_eq_true e0) ei hk (by omega) e3 (fun e he=>?_)
      have hxx:=hx
      cases hx with
      | eptr _ _ _ _ blk base hM hg =>
       obtain ⟨c,ty,hheap,hkk,hl⟩:=h.arr (xr hb) hg
       have:=hkk _ _ he
       subst hj1
       simp [ul,hk,hk1,this]
    · simp only [Option.some.injEq,Prod.mk.injEq,Bool.and_eq_true,decide_eq_true_eq] at he
      obtain ⟨⟨⟨⟨⟨e0,ei⟩,e1⟩,e2⟩,e3⟩,rfl,rfl⟩:=he
      refine main _ (Nat.le_of_ble_eq_true e0) ei (Nat.eq_of_beq_eq_true e1) (Nat.le_of_ble_eq_true e2) e3 (fun e he=>?_)
      rw [List.getD_eq_getElem?_getD,he];rfl
  · cases he
 | _=>cases he
theorem foldl_put (vs:List Value):∀ (n off:Nat) (C:Array Value),off+n+vs.length≤C.size →
 ((vs.zipIdx n).foldl (fun cs (p:Value × Nat)=>cs.setIfInBounds (off+p.2) p.1) C).toList=C.toList.take (off+n)++vs++C.toList.drop (off+n+vs.length):=by
 induction vs with
 | nil=>intro n off C h;simp
 | cons v r ih =>
  intro n off C h
  have hlen:off+n<C.size:=by simp at h;omega
  simp only [List.zipIdx_cons,List.foldl_cons]
  rw [ih (n+1) off _ (by simp at h ⊢;omega)]
  apply List.ext_getElem?
  intro j
  have hC:(C.setIfInBounds (off+n) v).toList=C.toList.set (off+n) v:=by simp
  rw [hC]
  have l1:off+(n+1)+r.length≤(C.toList.set (off+n) v).length:=by simp at h ⊢;omega
  have l2:off+n+(v :: r).length≤C.toList.length:=by simpa using h
  have e1:=xd (C.toList.set (off+n) v) r (off+(n+1)) j l1
  have e2:=xd C.toList (v :: r) (off+n) j l2
  rw [e1,e2]
  simp only [List.getElem?_set,List.length_cons]
  by_cases h1:j<off+n
  · rw [if_pos (by omega),if_neg (by omega),if_pos h1]
  · rw [if_neg h1]
    by_cases h2:j=off+n
    · subst h2
      rw [if_pos (by omega),if_pos rfl,if_pos (by simpa using hlen),if_pos (by omega)];simp
    · rw [if_neg (by omega)]
      by_cases h3:j<off+(n+1)+r.length
      · rw [if_pos h3,if_pos (by omega),show j - (off+n)=(j - (off+(n+1)))+1 by omega,List.getElem?_cons_succ]
      · rw [if_neg h3,if_neg (by omega),if_neg (by omega)]
theorem array_foldl_put (y:Array Value) (off:Nat) (C:Array Value) (h:off+y.size≤C.size) :
 (y.zipIdx.foldl (fun cs (p:Value × Nat)=>cs.setIfInBounds (off+p.2) p.1) C)=(C.toList.take off++y.toList++C.toList.drop (off+y.toList.length)).toArray:=by
 rw [← Array.foldl_toList,Array.toList_zipIdx]
 apply Array.ext'
 have:=foldl_put y.toList 0 off C (by simpa using h)
 simpa using this
theorem cellsRep_put {cs vs:List AV} {C:Array Value} {zs:List Value} (hc:yW K M w cs C.toList) (hv:yW K M w vs zs) {off:Nat} (hle:off+vs.length≤cs.length) :
 yW K M w (ul cs off vs) (C.toList.take off++zs++C.toList.drop (off+zs.length)):=by
 have hl1:=hc.1
 have hl2:=hv.1
 refine ⟨by simp [ul] at hl1 ⊢;omega,fun j c hj=>?_⟩
 unfold ul at hj
 rw [xd _ _ _ _ hle] at hj
 rw [xd _ _ _ _ (by omega)]
 by_cases h1:j<off
 · rw [if_pos h1] at hj ⊢;exact hc.2 j c hj
 · rw [if_neg h1] at hj ⊢
   by_cases h2:j<off+vs.length
   · rw [if_pos h2] at hj;rw [if_pos (by omega)];exact hv.2 _ c hj
   · rw [if_neg h2] at hj;rw [if_neg (by omega)];exact hc.2 j c hj
theorem fill_rep (place:Nat→Option (Nat × Nat)):∀ (ps:List (Nat × Value)) (qs:List (Nat × Nat × AV)) (cs:List AV) (C:Array Value),ps.length=qs.length →
 (∀ (i:Nat) p q,ps[i]? = some p→qs[i]? = some q→place p.1=some (q.1,q.2.1)∧VRep K M w q.2.2 p.2∧q.2.2.cells.all AV.one=true) →
 yW K M w cs C.toList→∀ cs',sx cs qs=some cs'→∃ C',Instr.fill place C ps=some C'∧yW K M w cs' C'.toList
 | [],[],cs,C,_,_,hc,cs',hf=>by
  simp [sx] at hf;subst hf;exact ⟨C,rfl,hc⟩
 | [],_ :: _,_,_,h,_,_,_,_=>by cases h
 | _ :: _,[],_,_,h,_,_,_,_=>by cases h
 | (i,v) :: ps,(off,k,x) :: qs,cs,C,hl,hp,hc,cs',hf=>by
  obtain ⟨h1,h2,h3⟩:=hp 0 _ _ rfl rfl
  dsimp only at h1 h2 h3
  obtain ⟨hcr,_⟩:=uQ h2 h3
  simp only [sx] at hf
  split at hf
  · rename_i hcond
    simp only [Bool.and_eq_true] at hcond
    have hk:x.cells.length=k:=Nat.eq_of_beq_eq_true hcond.1
    have hle:off+k≤cs.length:=Nat.le_of_ble_eq_true hcond.2
    have hsz:v.cells.size=k:=by have:=hcr.1;simp at this;omega
    have hC:C.size=cs.length:=by have:=hc.1;simpa using this
    simp only [Instr.fill,h1]
    rw [if_neg (by simp [hsz,hC];omega)]
    rw [array_foldl_put v.cells off C (by omega)]
    refine fill_rep place ps qs (ul cs off x.cells) _ (by simpa using hl) (fun i p q e1 e2=>hp (i+1) p q e1 e2) ?_ cs' hf
    exact cellsRep_put hc hcr (by omega)
  · cases hf
theorem ww (v:Value):VRep K M w (ofValue v) v:=by
 unfold ofValue
 split
 · rename_i cs
   split
   · rename_i hall
     have:=VRep.agg (K:=K) (M:=M) (w:=w) (cs.toList.map .val) cs.toList (by simp) (fun i c y hc hy=>by
      simp at hc hy;rw [hy] at hc;simp at hc;subst hc
      refine .val y (fun ds hd=>?_)
      subst hd
      have:=List.all_eq_true.1 hall (.agg ds) (List.mem_of_getElem? (i:=i) (by simpa using hy))
      simp [Value.oneCell'] at this)
     simpa using this
   · exact .undef _
 · rename_i hne
   exact .val v hne
theorem ofValue_agg {v:Value} {z:List AV} (h:ofValue v=.agg z):∃ cs,v=.agg cs∧yW K M w z cs.toList:=by
 have hr:=ww (K:=K) (M:=M) (w:=w) v
 rw [h] at hr
 cases hr with
 | agg _ ys hl hh=>exact ⟨ys.toArray,rfl,by simpa using hl.symm,fun j c hj=>⟨ys[j]'(by rw [← hl];exact (List.getElem?_eq_some_iff.1 hj).1),by simp [← hl,(List.getElem?_eq_some_iff.1 hj).1],hh j c _ hj (List.getElem?_eq_getElem _)⟩⟩
def flat (es:List AV):List AV:=es.flatMap AV.cells
theorem flat_append (a b:List AV):flat (a++b)=flat a++flat b:=by simp [flat]
theorem xb {k:Nat}:∀ {es:List AV},(∀ e∈es,e.cells.length=k)→(flat es).length=es.length * k
 | [],_=>by simp [flat]
 | e :: r,h=>by
  have:=xb (es:=r) (fun x hx=>h x (List.mem_cons_of_mem _ hx))
  simp only [flat,List.flatMap_cons,List.length_append,List.length_cons] at this ⊢
  rw [this,h e List.mem_cons_self,Nat.succ_mul];omega
theorem uq {k:Nat}:∀ {es:List AV},(∀ e∈es,e.cells.length=k)→∀ {i j:Nat} {e:AV},es[i]? = some e→j<k→(flat es)[i * k+j]? = e.cells[j]?
 | [],_,i,j,e,he,_=>by simp at he
 | x :: r,h,i,j,e,he,hj=>by
  have hx:=h x List.mem_cons_self
  cases i with
  | zero =>
   simp at he;subst he
   simp only [flat,List.flatMap_cons,Nat.zero_mul,Nat.zero_add]
   rw [List.getElem?_append_left (by omega)]
  | succ i =>
   simp at he
   have:=uq (es:=r) (fun x hx=>h x (List.mem_cons_of_mem _ hx)) he hj
   simp only [flat,List.flatMap_cons]
   rw [List.getElem?_append_right (by rw [hx,Nat.succ_mul];omega),hx,Nat.succ_mul,show i * k+k+j - k=i * k+j by omega]
   exact this
theorem flat_take {k:Nat}:∀ {es:List AV},(∀ e∈es,e.cells.length=k)→∀ n,flat (es.take n)=(flat es).take (n * k)
 | [],_,n=>by simp [flat]
 | e :: r,h,0=>by simp [flat]
 | e :: r,h,n+1=>by
  have hx:=h e List.mem_cons_self
  have:=flat_take (es:=r) (fun x hx=>h x (List.mem_cons_of_mem _ hx)) n
  simp only [flat,List.take_succ_cons,List.flatMap_cons] at this ⊢
  rw [this,List.take_append,Nat.succ_mul,hx,List.take_of_length_le (l:=e.cells) (by omega)]
  congr 2;omega
theorem lies_flat {c:Array Value} {base k:Nat} {es:List AV} (hk:∀ e∈es,e.cells.length=k) (h:vB K M w c base (flat es)):∀ (i:Nat) e,es[i]? = some e→vB K M w c (base+i * k) e.cells:=by
 intro i e he j x hj
 have hlt:=(List.getElem?_eq_some_iff.1 hj).1
 have hjk:j<k:=by rw [← hk e (List.mem_of_getElem? he)];exact hlt
 obtain ⟨y,h1,h2⟩:=h (i * k+j) x (by rw [uq hk he hjk];exact hj)
 exact ⟨y,by rw [Nat.add_assoc];exact h1,h2⟩
theorem flat_at {k:Nat} {es:List AV} (hk:∀ e∈es,e.cells.length=k) {q:Nat} {x:AV} (h:(flat es)[q]? = some x):∃ i j e,es[i]? = some e∧e.cells[j]? = some x∧q=i * k+j∧j<k:=by
 have hq:=(List.getElem?_eq_some_iff.1 h).1
 rw [xb hk] at hq
 have hk0:0<k:=Nat.pos_of_ne_zero (fun e=>by subst e;simp at hq)
 have hi:q / k<es.length:=(Nat.div_lt_iff_lt_mul hk0).2 hq
 have hj:q % k<k:=Nat.mod_lt _ hk0
 have hd:q=q / k * k+q % k:=by rw [Nat.mul_comm];exact (Nat.div_add_mod q k).symm
 refine ⟨q / k,q % k,_,List.getElem?_eq_getElem hi,?_,hd,hj⟩
 rw [← uq hk (List.getElem?_eq_getElem hi) hj,← hd];exact h
theorem vd {k:Nat} {es:List AV} (h:∀ (i:Nat) e,es[i]? = some e→e.cells.length=k):∀ e∈es,e.cells.length=k:=fun e he=>by
 obtain ⟨i,hi,e'⟩:=List.mem_iff_getElem.1 he
 exact h i e (by rw [List.getElem?_eq_getElem hi,e'])
end
end Go.Am
end
section
namespace Go.Am
section
variable {E:Env} {K:Ctx} {w:World} {H:zz} {M:Nat}
theorem fieldParts_spec {P:Program} {fs:Array Field}:∀ {ps:List (Nat × Operand)} {qs:List (Nat × Nat × Opd)},ve P fs ps=some qs →
 ps.length=qs.length∧∀ (i:Nat) p q,ps[i]? = some p→qs[i]? = some q→∃ f fi,fs[p.1]? = some f∧P.info? f.type=some fi∧q.1=f.offset∧q.2.1=fi.size∧q.2.2=opd p.2
 | [],qs,h=>by simp [ve] at h;subst h;simp
 | (i,x) :: r,qs,h=>by
  simp only [ve] at h
  split at h
  · rename_i f hf
    split at h
    · rename_i fi r' h1 h2
      cases h
      obtain ⟨hl,hh⟩:=fieldParts_spec h2
      refine ⟨by simp [hl],fun j p q hp hq=>?_⟩
      cases j with
      | zero=>simp at hp hq;subst hp hq;exact ⟨f,fi,hf,h1,rfl,rfl,rfl⟩
      | succ j=>simp at hp hq;exact hh j p q hp hq
    · cases h
  · cases h
def Ops (E:Env) (K:Ctx) (H:zz) (w:World) (F:AFr) (ρ:Operand→Value):Prop:=∀ x,VRep K H.length w ((opd x).ev E.G F) (ρ x)
theorem mapM_places (P:Program) (fs:List Field) (w:World) (hall:∀ f∈fs,∃ i,P.info? f.type=some i) :
 (fs.mapM (m:=Sem) fun f=>do pure (f.offset,← sizeOf f.type)).run P w=.ok (fs.map fun f=>(f.offset,P.cellsOf f.type)) w:=by
 induction fs with
 | nil=>simp
 | cons f r ih =>
  obtain ⟨i,hi⟩:=hall f List.mem_cons_self
  have ih:=ih (fun f hf=>hall f (List.mem_cons_of_mem _ hf))
  have hc:P.cellsOf f.type=i.size:=by simp [Program.cellsOf,hi]
  simp only [List.mapM_cons,Sem.run_bind,xy hi,Result.andThen_ok,Sem.run_pure,ih,List.map_cons,hc]
theorem ok_buildStruct (h:HRep E K w H) {t:TypeId} {i:TypeInfo} {fs:Array Field} {z:Value} {zc:List AV} {F:AFr} {ρ:Operand→Value} (hρ:Ops E K H w F ρ) {ps:Array (Nat × Operand)} {parts:List (Nat × Nat × Opd)}
 (hi:E.P.info? t=some i) (hu:E.P.underlying t=some (.struct fs)) (hfs:∀ f∈fs.toList,∃ i,E.P.info? f.type=some i) (hz:i.zero=some z) (hzc:ofValue z=.agg zc) (hp:ve E.P fs ps.toList=some parts)
 {cs:List AV} (hf:sx zc (parts.map fun p=>(p.1,p.2.1,p.2.2.ev E.G F))=some cs) (hone:parts.all (fun p=>(p.2.2.ev E.G F).cells.all AV.one)=true) :
 yM E K H w (do let v ← Instr.build t (ps.map fun (i,x)=>(i,ρ x));pure (.value v)) (.agg cs) H:=by
 obtain ⟨zs,rfl,hcr⟩:=ofValue_agg (K:=K) (M:=H.length) (w:=w) hzc
 obtain ⟨hl,hpp⟩:=fieldParts_spec hp
 obtain ⟨C',hC,hrep⟩:=fill_rep (K:=K) (M:=H.length) (w:=w) (fun n=>(fs.toList.map fun f=>(f.offset,E.P.cellsOf f.type))[n]?) (ps.toList.map fun p=>(p.1,ρ p.2)) (parts.map fun p=>(p.1,p.2.1,p.2.2.ev E.G F)) zc zs (by simpa using hl)
  (fun n p q hp' hq'=>by
   simp at hp' hq'
   obtain ⟨a1,b1,e1,rfl⟩:=hp'
   obtain ⟨a2,b2,c2,e2,rfl⟩:=hq'
   obtain ⟨f,fi,g1,g2,g3,g4,g5⟩:=hpp n (a1,b1) (a2,b2,c2) (by simpa using e1) e2
   dsimp only at g1 g3 g4 g5 ⊢
   subst g3 g4 g5
   refine ⟨?_,hρ _,?_⟩
   · have:fs.toList[a1]? = some f:=by simpa using g1
     simp [this,Program.cellsOf,g2]
   · exact List.all_eq_true.1 hone _ (List.mem_of_getElem? e2)) hcr cs hf
 have hrun:=mapM_places E.P fs.toList w hfs
 have hfill:Instr.fill (fun x=>(Array.map (fun f=>(f.offset,E.P.cellsOf f.type)) fs)[x]?) zs (ps.map fun (i,x)=>(i,ρ x)).toList=some C':=by
  rw [← hC]
  congr 1
  · funext n;simp
  · simp
 have hm:(fs.mapM (m:=Sem) fun f=>do pure (f.offset,← sizeOf f.type)).run E.P w=.ok (fs.map fun f=>(f.offset,E.P.cellsOf f.type)) w:=by
  rw [Array.mapM_eq_mapM_toList]
  simp only [Sem.run_map,hrun,Result.andThen_ok]
  exact congrArg (fun a=>Result.ok a w) (Array.ext' (by simp))
 refine zi h (y:=.agg C') ?_ ?_
 · simp only [Instr.build,Sem.run_bind,uw hi hz,Result.andThen_ok,zY hu,hm,Value.cells,hfill]
   simp
 · have:=VRep.agg (K:=K) (M:=H.length) (w:=w) cs C'.toList hrep.1.symm (fun j c y hc hy=>by
    obtain ⟨z,e1,e2⟩:=hrep.2 j c hc
    rw [hy] at e1;cases e1;exact e2)
   simpa using this
theorem putC_drop (cs vs:List AV) (off:Nat) {m:Nat} (h:off+vs.length≤cs.length) (hm:off+vs.length≤m):(ul cs off vs).drop m=cs.drop m:=by
 apply List.ext_getElem?
 intro j
 rw [List.getElem?_drop,List.getElem?_drop]
 unfold ul
 rw [xd _ _ _ _ h,if_neg (by omega),if_neg (by omega)]
theorem fillC_order (G:Nat→AV) (F:AFr) (k:Nat):∀ (ps:List (Nat × Operand)) (s:Nat) (cs:List AV),ui s ps=true→(∀ p∈ps,((opd p.2).ev G F).cells.length=k)→(s+ps.length) * k≤cs.length →
 sx cs (ps.map fun p=>(p.1 * k,k,(opd p.2).ev G F))=some (cs.take (s * k)++flat (ps.map fun p=>(opd p.2).ev G F)++cs.drop ((s+ps.length) * k))
 | [],s,cs,_,_,_=>by simp [sx,flat]
 | (i,x) :: r,s,cs,ho,hk,hle=>by
  simp only [ui,Bool.and_eq_true] at ho
  have hi:i=s:=Nat.eq_of_beq_eq_true ho.1
  subst hi
  have hx:((opd x).ev G F).cells.length=k:=hk _ List.mem_cons_self
  have h2:(i+1) * k≤cs.length:=Nat.le_trans (Nat.mul_le_mul_right k (by simp)) hle
  have h3:i * k+k≤cs.length:=by rwa [Nat.succ_mul] at h2
  simp only [List.map_cons,sx]
  rw [if_pos (by rw [Bool.and_eq_true];exact ⟨by rw [hx];exact Nat.beq_refl k,Nat.ble_eq_true_of_le h3⟩)]
  have hlp:(ul cs (i * k) ((opd x).ev G F).cells).length=cs.length:=by simp [ul,hx];omega
  rw [fillC_order G F k r (i+1) _ ho.2 (fun p hp=>hk p (List.mem_cons_of_mem _ hp)) (by rw [hlp];refine Nat.le_trans (Nat.le_of_eq ?_) hle;simp;congr 1;omega)]
  congr 1
  simp only [flat,List.flatMap_cons,List.length_cons]
  rw [Nat.succ_mul]
  have e1:(ul cs (i * k) ((opd x).ev G F).cells).take (i * k+k)=cs.take (i * k)++((opd x).ev G F).cells:=by
   unfold ul
   rw [List.take_append_of_le_length (by simp [hx];omega)]
   rw [List.take_of_length_le (by simp [hx];omega)]
  have e2:(ul cs (i * k) ((opd x).ev G F).cells).drop ((i+1+r.length) * k)=cs.drop ((i+(r.length+1)) * k):=by
   have e3:(i+1+r.length) * k=i * k+k+r.length * k:=by rw [Nat.add_mul,Nat.succ_mul]
   have e4:(i+(r.length+1)) * k=i * k+k+r.length * k:=by rw [← e3];congr 1;omega
   rw [e3,e4]
   exact putC_drop _ _ _ (by omega) (by omega)
  rw [e1,e2]
  simp [List.append_assoc]
theorem ok_newArr (h:HRep E K w H) (t:TypeId) {k n:Nat} {es:List AV} {C:Array Value} (hk:∀ e∈es,e.cells.length=k) (_hn:n=es.length) (hC:∃ zs,yW K H.length w (flat es) zs∧∀ (j:Nat) z,zs[j]? = some z→C[j]? = some z) {s:Sem Next} {cap:Nat} (hcap:n≤cap)
 (hsz:cap * k≤C.size) (hs:s.run E.P w=.ok (.value (.slice (some ⟨w.heap.size,0,none⟩) n cap)) (w.alloc (.cells C t))) :
 yM E K H w s (.sl H.length k 0 n) (H++[.arr k es]):=by
 have hm:=sd h (.cells C t) (some (w.heap.size,0)) (H.length+1) (Nat.le_succ _)
 obtain ⟨zs,hr,hzs⟩:=hC
 have hl:vB (K.push H.length (some (w.heap.size,0))) (H.length+1) (w.alloc (.cells C t)) C 0 (flat es):=fun j x hj=>by
  obtain ⟨z,e1,e2⟩:=hr.2 j x hj
  exact ⟨z,by rw [Nat.zero_add];exact hzs j z e1,hm.rep e2⟩
 obtain ⟨h2,ev⟩:=h.push (.cells C t) (.arr k es) 0 (.arr _ _ _ _ _ _ (yR w _) (fun i e he=>hk e (List.mem_of_getElem? he)) (lies_flat hk hl))
 refine ⟨_,_,_,.inl hs,?_,h2,ev⟩
 have:=VRep.sl (K:=K.push H.length (some (w.heap.size,0))) (M:=(H++[AObj.arr k es]).length) (w:=w.alloc (.cells C t)) H.length k 0 n cap w.heap.size 0 (by simp) (Ctx.push_eq _ _ _) hcap
  ⟨C,t,(0,0),yR w _,by simpa using hsz⟩
 simpa using this
theorem ok_newFzW {w0:World} (h:HRep E K w H) (ev0:Ev H.length K H w0 K H w) (t:TypeId) (fz:Nat × Nat) {k n:Nat} {es:List AV} {C:Array Value} (hk:∀ e∈es,e.cells.length=k) (hn:n=es.length) (hC:∃ zs,yW K H.length w (flat es) zs∧∀ (j:Nat) z,zs[j]? = some z→C[j]? = some z) {s:Sem Next} {cap:Nat} (hcap:n≤cap)
 (hs:s.run E.P w0=.ok (.value (.slice (some ⟨w.heap.size,0,none⟩) n cap)) (w.alloc (.cells C t fz))):yM E K H w0 s (.isl k es) H:=by
 let K':Ctx:={ K with I:=fun b=>K.I b∨b=w.heap.size }
 have hm:Mv K H.length w K' H.length (w.alloc (.cells C t fz)):=⟨fun _ _=>rfl,Nat.le_refl _,fun _ h=>.inl h,fun b hb o=>yI (zD w _ (h.low b hb)) o,fun b c ty fz hb=>⟨c,fz,(zD w _ (Array.getElem?_eq_some_iff.1 hb).1).trans hb,rfl⟩⟩
 obtain ⟨zs,hr,hzs⟩:=hC
 have h2:HRep E K' (w.alloc (.cells C t fz)) H:=by
  refine ⟨fun b o hb=>hm.orep (h.obj b o hb) fun blk base e hl=>zD w _ (yE h (.inl ⟨b,o,base,hb,hl,e⟩)),h.inj,fun blk ho hi=>?_,fun blk hi=>?_,fun g=>?_,h.xalloc _ rfl (fun _ h=>.inl h) (fun _ h=>.inl h) (fun b j st hb=>⟨b,hb⟩)⟩
  · rcases hi with hi | rfl
    · exact h.disj blk ho hi
    · exact absurd (yE h ho) (Nat.lt_irrefl _)
  · rcases hi with hi | rfl
    · have:=h.low blk hi;simp;omega
    · simp
  · exact VRep.mono (K:=K) (K':=K') (fun b hb=>absurd hb (Nat.not_lt_zero _)) (Nat.le_refl _) (fun _ h=>.inl h) hm.wc hm.cells (h.glob g)
 have key:∀ (i:Nat) e (j:Nat) c,es[i]? = some e→e.cells[j]? = some c→∃ z,C[i * k+j]? = some z∧VRep K H.length w c z:=fun i e j c he hj=>by
  have hjk:j<k:=by rw [← hk e (List.mem_of_getElem? he)];exact (List.getElem?_eq_some_iff.1 hj).1
  obtain ⟨z,e1,e2⟩:=hr.2 (i * k+j) c (by rw [uq hk he hjk];exact hj)
  exact ⟨z,hzs _ _ e1,e2⟩
 refine ⟨_,_,K',.inl hs,?_,h2,ev0.trans ⟨fun _ _=>rfl,Nat.le_refl _,fun _ h=>.inl h,fun b hb=>?_,fun b hb=>.inl hb,fun b hb _=>zD w _ hb,by simp,hm.cells,fun b r hb=>⟨r,(zD w _ (Array.getElem?_eq_some_iff.1 hb).1).trans hb⟩,rfl,rfl,rfl⟩⟩
 · subst hn
   refine .isl k es (fun i j=>(C[i * k+j]?).getD undef) ⟨w.heap.size,0,none⟩ cap hcap (fun _=>⟨.inr rfl,rfl⟩) (fun i e he=>hk e (List.mem_of_getElem? he)) (fun i e j c he hj=>?_) (fun i e j c he hj=>?_)
   · obtain ⟨z,e1,e2⟩:=key i e j c he hj
     have hn2:(w.alloc (.cells C t fz)).heap[w.heap.size]? = some (.cells C t fz):=yR w _
     simp only [World.cell?,Nat.zero_add,hn2,e1]
     simp
   · obtain ⟨z,e1,e2⟩:=key i e j c he hj
     rw [e1];exact hm.rep e2
 · rcases hb with hb | rfl
   · exact .inl hb
   · exact .inr (.inr (Nat.le_refl _))
theorem ok_newFz (h:HRep E K w H) (t:TypeId) {k n:Nat} {es:List AV} {C:Array Value} (hk:∀ e∈es,e.cells.length=k) (hn:n=es.length) (hC:∃ zs,yW K H.length w (flat es) zs∧∀ (j:Nat) z,zs[j]? = some z→C[j]? = some z) {s:Sem Next} {cap:Nat} (hcap:n≤cap)
 (hs:s.run E.P w=.ok (.value (.slice (some ⟨w.heap.size,0,none⟩) n cap)) (w.alloc (.cells C t))):yM E K H w s (.isl k es) H :=
 ok_newFzW h (Ev.refl _ _ _ _ (Nat.le_refl _)) t (0,0) hk hn hC hcap hs
theorem bslice_run (h:HRep E K w H) {t e:TypeId} {len:Nat} {ps:Array (Nat × Operand)} {ei:TypeInfo} {z:Value} {F:AFr} {ρ:Operand→Value} (hρ:Ops E K H w F ρ)
 (hu:E.P.underlying t=some (.slice e)) (hi:E.P.info? e=some ei) (hz:ei.zero=some z) (_hzs:z.cells.size=ei.size) (hlen:ps.size=len) (ho:ui 0 ps.toList=true) (h24:len * ei.size≤16777216) (_hk1:1≤ei.size)
 (hall:∀ p∈ps.toList,((opd p.2).ev E.G F).cells.length=ei.size∧((opd p.2).ev E.G F).cells.all AV.one=true) :
 ∃ C':Array Value,yW K H.length w (flat (ps.toList.map fun p=>(opd p.2).ev E.G F)) C'.toList∧C'.size=len * ei.size ∧
  (do let v ← Instr.buildSlice t len (ps.map fun (i,x)=>(i,ρ x));pure (.value v):Sem Next).run E.P w=.ok (.value (.slice (some ⟨w.heap.size,0,none⟩) len len)) (w.alloc (.cells C' e)):=by
 have hinit:yW K H.length w (List.replicate (len * ei.size) .undef) ((Array.range (len * ei.size)).map (fun n=>z.cells[n % z.cells.size]!)).toList :=
  ⟨by simp,fun j c hj=>by
   have hj':j<len * ei.size:=by have:=(List.getElem?_eq_some_iff.1 hj).1;simpa using this
   rw [List.getElem?_replicate,if_pos hj'] at hj;cases hj
   exact ⟨_,by simp [hj'];rfl,.undef _⟩⟩
 have hfc:=fillC_order E.G F ei.size ps.toList 0 (List.replicate (len * ei.size) .undef) ho (fun p hp=>(hall p hp).1) (by simp [hlen])
 have hflat:(flat (ps.toList.map fun p=>(opd p.2).ev E.G F)).length=len * ei.size:=by
  rw [xb (k:=ei.size) (fun e he=>by obtain ⟨p,hp,rfl⟩:=List.mem_map.1 he;exact (hall p hp).1)];simp [hlen]
 simp only [Nat.zero_mul,List.take_zero,List.nil_append,Nat.zero_add,Array.length_toList,hlen] at hfc
 rw [List.drop_of_length_le (by simp),List.append_nil] at hfc
 obtain ⟨C',hC,hrep⟩:=fill_rep (K:=K) (M:=H.length) (w:=w) (fun i=>some (i * ei.size,ei.size)) (ps.toList.map fun p=>(p.1,ρ p.2)) (ps.toList.map fun p=>(p.1 * ei.size,ei.size,(opd p.2).ev E.G F)) _ _ (by simp)
  (fun n p q hp' hq'=>by
   simp at hp' hq'
   obtain ⟨a1,b1,e1,rfl⟩:=hp'
   obtain ⟨a2,b2,e2,rfl⟩:=hq'
   rw [e1] at e2;cases e2
   exact ⟨rfl,hρ _,(hall (a1,b1) (List.mem_of_getElem? (i:=n) (by simpa using e1))).2⟩) hinit _ hfc
 have hfill:Instr.fill (fun i=>some (i * ei.size,ei.size)) ((Array.range (len * ei.size)).map (z.cells[· % z.cells.size]!)) (ps.map fun (i,x)=>(i,ρ x)).toList=some C':=by
  rw [← hC]
  congr 1
  simp
 have hCs:C'.size=len * ei.size:=by have:=hrep.1;rw [hflat] at this;simpa using this
 refine ⟨C',hrep,hCs,?_⟩
 have h24':¬ (16777216<len * ei.size):=by omega
 by_cases h0:len * ei.size=0
 · have hr0:(Array.range (len * ei.size)).map (fun n=>z.cells[n % z.cells.size]!) = #[]:=by rw [h0];exact Array.ext' (by simp)
   rw [hr0] at hfill
   simp [Instr.buildSlice,zY hu,xy hi,h0,newRow]
   have e0:Array.map (fun _=>(default:Value)) (Array.range 0) = #[]:=Array.ext' (by simp)
   have hf2:Instr.fill (fun i=>some (i * ei.size,ei.size)) #[] (List.map (fun x=>(x.fst,ρ x.snd)) ps.toList)=some C':=by rw [← hfill];congr 1;simp
   rw [e0,hf2]
   simp
 · simp [Instr.buildSlice,zY hu,xy hi,uw hi hz,h24',h0,newRow]
   simp at hfill
   simp [hfill]
theorem ok_bslice (h:HRep E K w H) {t e:TypeId} {len:Nat} {ps:Array (Nat × Operand)} {ei:TypeInfo} {z:Value} {F:AFr} {ρ:Operand→Value} (hρ:Ops E K H w F ρ)
 (hu:E.P.underlying t=some (.slice e)) (hi:E.P.info? e=some ei) (hz:ei.zero=some z) (hzs:z.cells.size=ei.size) (hlen:ps.size=len) (ho:ui 0 ps.toList=true) (h24:len * ei.size≤16777216) (hk1:1≤ei.size)
 (hall:∀ p∈ps.toList,((opd p.2).ev E.G F).cells.length=ei.size∧((opd p.2).ev E.G F).cells.all AV.one=true) :
 yM E K H w (do let v ← Instr.buildSlice t len (ps.map fun (i,x)=>(i,ρ x));pure (.value v)) (.sl H.length ei.size 0 len) (H++[.arr ei.size (ps.toList.map fun p=>(opd p.2).ev E.G F)]):=by
 obtain ⟨C',hrep,hCs,hrun⟩:=bslice_run h hρ hu hi hz hzs hlen ho h24 hk1 hall
 exact ok_newArr h e (C:=C') (cap:=len) (fun x hx=>by obtain ⟨p,hp,rfl⟩:=List.mem_map.1 hx;exact (hall p hp).1) (by simp [hlen]) ⟨C'.toList,hrep,fun j z hz=>by simpa using hz⟩ (Nat.le_refl _) (by rw [hCs];exact Nat.le_refl _) hrun
theorem ok_bslf (h:HRep E K w H) {t e:TypeId} {len:Nat} {ps:Array (Nat × Operand)} {ei:TypeInfo} {z:Value} {F:AFr} {ρ:Operand→Value} (hρ:Ops E K H w F ρ)
 (hu:E.P.underlying t=some (.slice e)) (hi:E.P.info? e=some ei) (hz:ei.zero=some z) (hzs:z.cells.size=ei.size) (hlen:ps.size=len) (ho:ui 0 ps.toList=true) (h24:len * ei.size≤16777216) (hk1:1≤ei.size)
 (hall:∀ p∈ps.toList,((opd p.2).ev E.G F).cells.length=ei.size∧((opd p.2).ev E.G F).cells.all AV.one=true) :
 yM E K H w (do let v ← Instr.buildSlice t len (ps.map fun (i,x)=>(i,ρ x));pure (.value v)) (.isl ei.size (ps.toList.map fun p=>(opd p.2).ev E.G F)) H:=by
 obtain ⟨C',hrep,hCs,hrun⟩:=bslice_run h hρ hu hi hz hzs hlen ho h24 hk1 hall
 exact ok_newFz h e (C:=C') (cap:=len) (fun x hx=>by obtain ⟨p,hp,rfl⟩:=List.mem_map.1 hx;exact (hall p hp).1) (by simp [hlen]) ⟨C'.toList,hrep,fun j z hz=>by simpa using hz⟩ (Nat.le_refl _) hrun
end
end Go.Am
end
section
namespace Go.Am
section
variable {E:Env} {K:Ctx} {w:World} {H:zz} {M:Nat}
theorem vF {blk off k:Nat} {es:List AV} (hk:∀ e∈es,e.cells.length=k) (h:∀ (i:Nat) e (j:Nat) c,es[i]? = some e→e.cells[j]? = some c→∃ z,w.cell? ⟨blk,off+(i * k+j),none⟩=some z∧VRep K M w c z) :
 ∃ zs,yW K M w (flat es) zs∧∀ (q:Nat) z,zs[q]? = some z→w.cell? ⟨blk,off+q,none⟩=some z:=by
 have hex:∀ q,∃ z,q<(flat es).length→w.cell? ⟨blk,off+q,none⟩=some z∧VRep K M w ((flat es).getD q .undef) z:=by
  intro q
  by_cases hq:q<(flat es).length
  · have hg:(flat es)[q]? = some ((flat es).getD q .undef):=by simp [List.getD_eq_getElem?_getD,hq]
    obtain ⟨i,j,e,h1,h2,e3,_⟩:=flat_at hk hg
    obtain ⟨z,a,b⟩:=h i e j _ h1 h2
    exact ⟨z,fun _=>⟨e3 ▸ a,b⟩⟩
  · exact ⟨undef,fun h=>absurd h hq⟩
 obtain ⟨f,hf⟩:=Classical.axiomOfChoice hex
 refine ⟨(List.range (flat es).length).map f,⟨by simp,fun j c hj=>?_⟩,fun q z hz=>?_⟩
 · have hjl:=(List.getElem?_eq_some_iff.1 hj).1
   have:=(hf j hjl).2
   rw [List.getD_eq_getElem?_getD,hj] at this
   exact ⟨f j,by simp [hjl],this⟩
 · have hq:q<(flat es).length:=by have:=(List.getElem?_eq_some_iff.1 hz).1;simpa using this
   simp [hq] at hz
   rw [← hz];exact (hf q hq).1
def SrcOk (E:Env) (K:Ctx) (M:Nat) (w:World) (k:Nat) (new:List AV) (y:Value):Prop :=
 ∃ (b:Option Addr) (cap:Nat) (zs:List Value),y=.slice b new.length cap∧yW K M w (flat new) zs∧(∀ e∈new,e.cells.length=k) ∧
  (∀ n,n≤new.length→∀ w':World,(∀ a,w'.cell? a=w.cell? a)→(Builtin.firstCells k n y).run E.P w'=.ok (zs.take (n * k)).toArray w')
theorem uX {k:Nat} (b:Option Addr) (cap:Nat):SrcOk E K M w k [] (.slice b 0 cap):=by
 refine ⟨b,cap,[],rfl,⟨rfl,fun j c hj=>by simp [flat] at hj⟩,fun e he=>(by cases he),fun n hn w' _=>?_⟩
 obtain rfl:n=0:=by simpa using hn
 cases b with
 | none=>simp [Builtin.firstCells]
 | some a=>simpa using run_firstCells_some (P:=E.P) w' k 0 a 0 cap [] (by simp) (by simp)
theorem srcOk_full {k:Nat} {new:List AV} (blk off cap:Nat) (hk:∀ e∈new,e.cells.length=k)
 (hr:∀ (i:Nat) e (j:Nat) c,new[i]? = some e→e.cells[j]? = some c→∃ z,w.cell? ⟨blk,off+(i * k+j),none⟩=some z∧VRep K M w c z):SrcOk E K M w k new (.slice (some ⟨blk,off,none⟩) new.length cap):=by
 obtain ⟨zs,h1,h2⟩:=vF hk hr
 refine ⟨_,_,zs,rfl,h1,hk,fun n hn w' hw=>?_⟩
 have hlen:zs.length=new.length * k:=by rw [h1.1,xb hk]
 have hnk:n * k≤zs.length:=by rw [hlen];exact Nat.mul_le_mul_right k hn
 refine run_firstCells_some (P:=E.P) w' k n _ _ _ (zs.take (n * k)) (by simp;omega) ?_
 intro j v hj
 rw [List.getElem?_take] at hj
 split at hj
 · rw [xZ,hw];exact h2 j v hj
 · cases hj
theorem src_spec (h:HRep E K w H) {x:AV} {y:Value} (hx:VRep K H.length w x y) {k:Nat} {new:List AV} (he:uB H k x=some new) (hok:wY H k x=true):SrcOk E K H.length w k new y:=by
 cases x with
 | isl k' es =>
  simp only [uB] at he
  split at he
  · rename_i hkk
    cases he
    have hkk:=Nat.eq_of_beq_eq_true hkk
    subst hkk
    cases hx with
    | islnil=>exact uX none 0
    | isl _ _ f a cap hle hI hk hc hh =>
     rcases new with _ | ⟨e0,er⟩
     · exact uX (some a) cap
     · have hsp:=(hI (by simp)).2
       obtain ⟨ab,ao,asp⟩:=a
       dsimp only at hsp;subst hsp
       exact srcOk_full ab ao cap (vd hk) (fun i e j c h1 h2=>⟨f i j,hc i e j c h1 h2,hh i e j c h1 h2⟩)
  · cases he
 | sl b k' lo len =>
  simp only [uB] at he
  split at he
  · rename_i hkk
    have hkk:=Nat.eq_of_beq_eq_true hkk
    subst hkk
    cases ha:xj H b k with
    | none=>rw [ha] at he;cases he
    | some es =>
     rw [ha] at he
     simp only [wY,ha,decide_eq_true_eq] at hok
     simp only [Option.map_some,Option.some.injEq] at he
     have hlen:new.length=len:=by rw [← he];simp;omega
     cases hx with
     | slnil=>obtain rfl:new=[]:=List.length_eq_zero_iff.1 hlen;exact uX none 0
     | sl0 _ _ _ a=>obtain rfl:new=[]:=List.length_eq_zero_iff.1 hlen;exact uX (some a) 0
     | sl _ _ _ _ cap blk base hM hg hle hs =>
      obtain ⟨c,ty,hheap,hkk,hl⟩:=h.arr (xr ha) hg
      have hget:∀ (i:Nat) e,new[i]? = some e→es[lo+i]? = some e:=by
       intro i e hi
       rw [← he,List.getElem?_take] at hi
       split at hi
       · rwa [List.getElem?_drop] at hi
       · cases hi
      rw [← hlen]
      refine srcOk_full blk (base+lo * k) cap (vd fun i e hi=>hkk _ e (hget i e hi)) (fun i e j c h1 h2=>?_)
      obtain ⟨y,e1,e2⟩:=hl _ e (hget i e h1) j c h2
      refine ⟨y,?_,e2⟩
      have ea:base+lo * k+(i * k+j)=base+(lo+i) * k+j:=by rw [Nat.add_mul];omega
      rw [ea];simp [World.cell?,hheap,e1]
  · cases he
 | val v =>
  have hv:v=.slice none 0 0∧new=[]:=by
   unfold uB at he
   split at he
   · rename_i h;cases h
   · rename_i h;cases h
   · rename_i h;cases h;cases he;exact ⟨rfl,rfl⟩
   · cases he
  obtain ⟨rfl,rfl⟩:=hv
  cases hx with
  | val=>exact uX none 0
 | _=>cases he
def SrcOkS (E:Env) (K:Ctx) (M:Nat) (w:World) (k:Nat) (new:List AV) (y:Value):Prop :=
 ∃ zs:List Value,(∀ w':World,(Builtin.lenOf y).run E.P w'=.ok new.length w')∧yW K M w (flat new) zs∧(∀ e∈new,e.cells.length=k) ∧
  (∀ n,n≤new.length→∀ w':World,(∀ a,w'.cell? a=w.cell? a)→(Builtin.firstCells k n y).run E.P w'=.ok (zs.take (n * k)).toArray w')
theorem flat_bytes (l:List UInt8):flat (l.map fun b=>AV.val (.int .u8 (b.toNat:Int)))=l.map fun b=>AV.val (.int .u8 (b.toNat:Int)):=by
 induction l with
 | nil=>rfl
 | cons x r ih=>rw [List.map_cons,flat,List.flatMap_cons];rw [flat] at ih;rw [ih];rfl
theorem srcS_spec (h:HRep E K w H) {x:AV} {y:Value} (hx:VRep K H.length w x y) {k:Nat} {new:List AV} (he:sL H k x=some new) (hok:wY H k x=true):SrcOkS E K H.length w k new y:=by
 have other:uB H k x=some new→SrcOkS E K H.length w k new y:=fun he=>by
  obtain ⟨b,cap,zs,rfl,h1,h2,h3⟩:=src_spec h hx he hok
  exact ⟨zs,fun _=>rfl,h1,h2,h3⟩
 unfold sL at he
 split at he
 · rename_i s
   split at he
   · rename_i hk
     have hk:=Nat.eq_of_beq_eq_true hk
     subst hk
     cases he
     cases hx with
     | val =>
      refine ⟨s.data.toList.map fun b=>Value.int .u8 (b.toNat:Int),fun w'=>?_,?_,?_,fun n hn w' _=>?_⟩
      · have e:(byteA s).length=s.size:=by simp [byteA]
        rw [e];rfl
      · unfold byteA
        rw [flat_bytes]
        refine ⟨by simp,fun j c hj=>?_⟩
        rw [List.getElem?_map] at hj
        obtain ⟨b,hb,rfl⟩:=Option.map_eq_some_iff.1 hj
        exact ⟨.int .u8 (b.toNat:Int),by rw [List.getElem?_map,hb];rfl,.val _ (fun _=>by simp)⟩
      · intro e he
        obtain ⟨b,_,rfl⟩:=List.mem_map.1 he
        rfl
      · have hn:n≤s.size:=by simpa [byteA] using hn
        simp only [Builtin.firstCells,Nat.mul_one,Sem.run_pure]
        congr 1
        apply Array.ext'
        simp [ByteArray.data_extract]
   · cases he
 · exact other he
theorem srcOk_one {k:Nat} {new:List AV} (hk:∀ e∈new,e.cells.length=k) (h1:∀ e∈new,e.cells.all AV.one=true) {zs:List Value} (hr:yW K M w (flat new) zs):∀ z∈zs,z.oneCell'=true:=by
 intro z hz
 obtain ⟨q,hq,e⟩:=List.mem_iff_getElem.1 hz
 have hql:q<(flat new).length:=by rw [← hr.1];exact hq
 obtain ⟨z',e1,e2⟩:=hr.2 q _ (List.getElem?_eq_getElem hql)
 rw [List.getElem?_eq_getElem hq,e] at e1;cases e1
 obtain ⟨i,j,x,a,b,_,_⟩:=flat_at hk (List.getElem?_eq_getElem hql)
 exact one_cell e2 (List.all_eq_true.1 (h1 x (List.mem_of_getElem? a)) _ (List.mem_of_getElem? b))
theorem HRep.rehome (h:HRep E K w H) {b blk base base':Nat} {o o':AObj} (hb:H[b]? = some o) (hl:o.live) (hg:K.γ b=some (blk,base)) (hl':o'.live)
 (ho:Mv K H.length w (K.push H.length (some (blk,base'))) (H.length+1) w→tF E (K.push H.length (some (blk,base'))) (H.length+1) w (some (blk,base')) o') :
 HRep E (K.push H.length (some (blk,base'))) w (H.set b .dead++[o'])∧Ev H.length K H w (K.push H.length (some (blk,base'))) (H.set b .dead++[o']) w:=by
 have hbl:b<H.length:=(List.getElem?_eq_some_iff.1 hb).1
 have ho1:ws K H blk:=⟨b,o,base,hb,hl,hg⟩
 have hown:yb K H blk:=.inl ho1
 have hm:Mv K H.length w (K.push H.length (some (blk,base'))) (H.length+1) w:=⟨fun b hb=>K.push_lt _ hb,Nat.le_succ _,fun _ h=>h,fun _ _ _=>rfl,fun b c ty fz h=>⟨c,fz,h,rfl⟩⟩
 have hget:∀ (x:Nat) y,(H.set b .dead++[o'])[x]? = some y→y=.dead∨(x≠b∧x<H.length∧H[x]? = some y)∨(x=H.length∧y=o'):=by
  intro x y hx
  rcases getElem?_snoc _ _ hx with ⟨h1,h2⟩ | ⟨h1,h2⟩
  · rw [List.getElem?_set] at h2
    by_cases e:b=x
    · subst e;simp [hbl] at h2;exact .inl h2.symm
    · rw [if_neg e] at h2;exact .inr (.inl ⟨fun h=>e h.symm,by simpa using h1,h2⟩)
  · exact .inr (.inr ⟨by simpa using h1,h2⟩)
 have hown1:∀ x,ws (K.push H.length (some (blk,base'))) (H.set b .dead++[o']) x→ws K H x:=by
  rintro x ⟨i,oi,bi,h1,h2,h3⟩
  rcases hget i oi h1 with rfl | ⟨_,hlt,h1⟩ | ⟨rfl,rfl⟩
  · exact absurd h2 (by simp [AObj.live])
  · rw [K.push_lt _ hlt] at h3;exact ⟨i,oi,bi,h1,h2,h3⟩
  · rw [Ctx.push_eq] at h3;cases h3;exact ho1
 have hown':∀ x,yb (K.push H.length (some (blk,base'))) (H.set b .dead++[o']) x→yb K H x:=fun x hx=>hx.imp (hown1 x) id
 refine ⟨⟨?_,?_,fun x hx=>h.disj x (hown' x hx),h.low,fun g=>?_,h.xsame rfl (fun _ h=>h) hown1 (fun x j st hx=>(hget x _ hx).elim (fun e=>nomatch e) fun hx=>hx.elim (fun hx=>⟨x,hx.2.2⟩) fun hx=>(hx.2 ▸ hl').elim)⟩,
  { Ev.refl H.length K H w (Nat.le_refl _) with γ:=fun b hb=>K.push_lt _ hb,len:=by simp,I:=fun _ h=>h,I':=fun _ h=>.inl h,own:=fun x hx=>.inl (hown' x hx) }⟩
 · intro i oi hi
   have hlen:(H.set b .dead++[o']).length=H.length+1:=by simp
   rw [hlen]
   rcases hget i oi hi with rfl | ⟨_,hlt,hi⟩ | ⟨rfl,rfl⟩
   · exact .dead _
   · rw [K.push_lt _ hlt];exact hm.orep (h.obj i oi hi) (fun _ _ _ _=>rfl)
   · rw [Ctx.push_eq];exact ho hm
 · intro i i' o1 o2 x b1 b2 h1 h2 l1 l2 e1 e2
   rcases hget i o1 h1 with rfl | ⟨n1,hlt1,h1⟩ | ⟨x1,y1⟩
   · exact absurd l1 (by simp [AObj.live])
   all_goals rcases hget i' o2 h2 with rfl | ⟨n2,hlt2,h2⟩ | ⟨x2,y2⟩
   · exact absurd l2 (by simp [AObj.live])
   · rw [K.push_lt _ hlt1] at e1;rw [K.push_lt _ hlt2] at e2;exact h.inj i i' o1 o2 x b1 b2 h1 h2 l1 l2 e1 e2
   · subst x2;rw [K.push_lt _ hlt1] at e1;rw [Ctx.push_eq] at e2;cases e2
     exact absurd (h.inj i b o1 o _ _ _ h1 hb l1 hl e1 hg) n1
   · exact absurd l2 (by simp [AObj.live])
   · subst x1;rw [K.push_lt _ hlt2] at e2;rw [Ctx.push_eq] at e1;cases e1
     exact absurd (h.inj i' b o2 o _ _ _ h2 hb l2 hl e2 hg) n2
   · rw [x1,x2]
 · exact VRep.mono (K:=K) (K':=K.push H.length (some (blk,base'))) (fun b hb=>absurd hb (Nat.not_lt_zero _)) (Nat.le_refl _) (fun _ h=>h) hm.wc hm.cells (h.glob g)
theorem HRep.phantom (h:HRep E K w H) (b k:Nat) :
 HRep E (K.push H.length none) w (H.set b .dead++[.arr k []])∧Ev H.length K H w (K.push H.length none) (H.set b .dead++[.arr k []]) w:=by
 obtain ⟨h2,ev2⟩:=h.kill b
 have hm:Mv K H.length w (K.push H.length none) (H.length+1) w:=⟨fun b hb=>K.push_lt _ hb,Nat.le_succ _,fun _ h=>h,fun _ _ _=>rfl,fun b c ty fz h=>⟨c,fz,h,rfl⟩⟩
 have hlen:(H.set b .dead++[AObj.arr k []]).length=H.length+1:=by simp
 have hown1:∀ x,ws (K.push H.length none) (H.set b .dead++[.arr k []]) x→ws K (H.set b .dead) x:=by
  rintro x ⟨i,oi,bi,h1,h2,h3⟩
  rcases getElem?_snoc _ _ h1 with ⟨hlt,h1⟩ | ⟨x1,y1⟩
  · rw [K.push_lt _ (by simpa using hlt)] at h3;exact ⟨i,oi,bi,h1,h2,h3⟩
  · subst x1;rw [List.length_set,Ctx.push_eq] at h3;cases h3
 have hown':∀ x,yb (K.push H.length none) (H.set b .dead++[.arr k []]) x→yb K (H.set b .dead) x:=fun x hx=>hx.imp (hown1 x) id
 refine ⟨⟨?_,?_,fun x hx=>h2.disj x (hown' x hx),h.low,fun g=>?_,h2.xsame rfl (fun _ h=>h) hown1 (fun x j st hx=>(getElem?_snoc _ _ hx).elim (fun hx=>⟨x,hx.2⟩) fun hx=>nomatch hx.2)⟩,
  { Ev.refl H.length K H w (Nat.le_refl _) with γ:=fun b hb=>K.push_lt _ hb,len:=by simp,I:=fun _ h=>h,I':=fun _ h=>.inl h,own:=fun x hx=>ev2.own x (hown' x hx) }⟩
 · intro i oi hi
   rw [hlen]
   rcases getElem?_snoc _ _ hi with ⟨hlt,hi⟩ | ⟨x1,y1⟩
   · rw [K.push_lt _ (by simpa using hlt)]
     have:=h2.obj i oi hi
     rw [List.length_set] at this
     exact hm.orep this (fun _ _ _ _=>rfl)
   · subst x1 y1;rw [List.length_set,Ctx.push_eq];exact .arr0 k
 · intro i i' o1 o2 x b1 b2 h1 h2' l1 l2 e1 e2
   rcases getElem?_snoc _ _ h1 with ⟨hlt1,h1⟩ | ⟨x1,y1⟩<;>rcases getElem?_snoc _ _ h2' with ⟨hlt2,h2'⟩ | ⟨x2,y2⟩
   · rw [K.push_lt _ (by simpa using hlt1)] at e1;rw [K.push_lt _ (by simpa using hlt2)] at e2;exact h2.inj i i' o1 o2 x b1 b2 h1 h2' l1 l2 e1 e2
   · subst x2;rw [List.length_set,Ctx.push_eq] at e2;cases e2
   · subst x1;rw [List.length_set,Ctx.push_eq] at e1;cases e1
   · rw [x1,x2]
 · exact VRep.mono (K:=K) (K':=K.push H.length none) (fun b hb=>absurd hb (Nat.not_lt_zero _)) (Nat.le_refl _) (fun _ h=>h) hm.wc hm.cells (h.glob g)
end
end Go.Am
end
section
namespace Go.Am
section
variable {E:Env} {K:Ctx} {w:World} {H:zz} {M:Nat}
theorem run_lenOf (P:Program) (w:World) (b:Option Addr) (n c:Nat):(Builtin.lenOf (.slice b n c)).run P w=.ok n w:=rfl
theorem app_grow {P:Program} {t u ty e:TypeId} {ei:TypeInfo} {z:Value} {d:TypeDesc} (hu:P.underlying t=some (.slice e)) (hu2:P.underlying u=some d) (hd:∀ k,d≠.int k) (hi:P.info? e=some ei) (hz:ei.zero=some z)
 (base:Option Addr) (sLen sCap n:Nat) (yx:Value) (olds news:List Value) (hlen:(Builtin.lenOf yx).run P w=.ok n w)
 (hold:(Builtin.firstCells ei.size sLen (.slice base sLen sCap)).run P w.drew=.ok olds.toArray w.drew)
 (hnew:(Builtin.firstCells ei.size n yx).run P w.drew=.ok news.toArray w.drew) (hg:sCap<sLen+n) (hb:(sLen+n) * (ei.bytes+1)≤35184372088832) :
 (Builtin.append_ #[t,u] ty #[.slice base sLen sCap,yx]).run P w =
  .ok (.slice (some ⟨w.heap.size,0,none⟩) (sLen+n) (grownCap w (sLen+n) sCap e)) (w.drew.alloc (.cells (olds++(news++(Builtin.zeroCells z.cells (grownCap w (sLen+n) sCap e - (sLen+n))).toList)).toArray e)):=by
 have hn:¬ (sLen+n≤sCap):=by omega
 have hb1:sLen+n≤35184372088832:=Nat.le_trans (Nat.le_mul_of_pos_right _ (Nat.succ_pos _)) hb
 have hb2:(sLen+n) * ei.bytes≤35184372088832:=Nat.le_trans (Nat.mul_le_mul_left _ (Nat.le_succ _)) hb
 have h63':¬ (9223372036854775807<((sLen:Int)+(n:Int))):=by omega
 have h48':¬ (281474976710656<Builtin.nextslicecap (sLen+n) sCap * ei.bytes):=by have:=growslice_fits (bytes:=ei.bytes) hg (by omega);omega
 have hdm:(match d with | .int _=>true | _=>false)=false:=by cases d<;>first | rfl | exact absurd rfl (hd _)
 have hdrew:({ w with drawn:=w.drawn+1 }:World)=w.drew:=rfl
 simp [Builtin.append_,zY hu,zY hu2,xy hi,run_info hi,uw hi hz,hlen,hn,h63',h48',Question.forced,hold,hnew,newRow,grownCap]
 exact congrArg (fun c=>w.drew.alloc (.cells c e)) (Array.ext' (by simp))
theorem app_room {P:Program} {t u ty e:TypeId} {ei:TypeInfo} {d:TypeDesc} (hu:P.underlying t=some (.slice e)) (hu2:P.underlying u=some d) (hd:∀ k,d≠.int k) (hi:P.info? e=some ei)
 (blk o sLen sCap n:Nat) (c:Array Value) (cty:TypeId) (yx:Value) (news:List Value) (hlen:(Builtin.lenOf yx).run P w=.ok n w)
 (hnew:(Builtin.firstCells ei.size n yx).run P w=.ok news.toArray w) (hg:sLen+n≤sCap) (hb:w.heap[blk]? = some (.cells c cty (0,0))) (hfit:o+sLen * ei.size+news.length≤c.size) (h1:∀ z∈news,z.oneCell'=true) :
 (Builtin.append_ #[t,u] ty #[.slice (some ⟨blk,o,none⟩) sLen sCap,yx]).run P w =
  .ok (.slice (some ⟨blk,o,none⟩) (sLen+n) sCap) (w.setRow blk (c.toList.take (o+sLen * ei.size)++news++c.toList.drop (o+sLen * ei.size+news.length)).toArray):=by
 have hst:=run_storeCells_at P blk (o+sLen * ei.size) cty news 0 c w hb (by simpa using hfit) h1
 simp only [Nat.add_zero] at hst
 have hdm:(match d with | .int _=>true | _=>false)=false:=by cases d<;>first | rfl | exact absurd rfl (hd _)
 simp [Builtin.append_,zY hu,zY hu2,xy hi,hlen,hnew,hg,xZ,hst]
theorem app_none {P:Program} {t u ty e:TypeId} {ei:TypeInfo} {d:TypeDesc} (hu:P.underlying t=some (.slice e)) (hu2:P.underlying u=some d) (hd:∀ k,d≠.int k) (hi:P.info? e=some ei)
 (b:Option Addr) (yx:Value) (hlen:(Builtin.lenOf yx).run P w=.ok 0 w) (hnew:(Builtin.firstCells ei.size 0 yx).run P w=.ok #[] w) :
 (Builtin.append_ #[t,u] ty #[.slice b 0 0,yx]).run P w=.ok (.slice b 0 0) w:=by
 have hdm:(match d with | .int _=>true | _=>false)=false:=by cases d<;>first | rfl | exact absurd rfl (hd _)
 cases b<;>simp [Builtin.append_,zY hu,zY hu2,xy hi,hlen,hnew,storeCells]
theorem opOk_ev {K1:Ctx} {H1:zz} {w1:World} {s s1:Sem Next} {v:AV} {H':zz} (hev:Ev H.length K H w K1 H1 w1) (hH:H.length=H1.length) (hs:∀ y w',s1.run E.P w1=.ok (.value y) w'→s.run E.P w=.ok (.value y) w')
 (hsk:∀ w',s1.run E.P w1=.ok .skip w'→s.run E.P w=.ok .skip w') (h:yM E K1 H1 w1 s1 v H'):yM E K H w s v H':=by
 obtain ⟨y,w',K',hr,hv,hh,ev⟩:=h
 refine ⟨y,w',K',?_,hv,hh,hev.trans (hH ▸ ev)⟩
 rcases hr with hr | ⟨hr,e⟩
 · exact .inl (hs _ _ hr)
 · exact .inr ⟨hsk _ hr,e⟩
theorem ok_app (h:HRep E K w H) {t u ty e:TypeId} {ei:TypeInfo} {z:Value} {d:TypeDesc} (hu:E.P.underlying t=some (.slice e)) (hu2:E.P.underlying u=some d) (hd:∀ k,d≠.int k) (hi:E.P.info? e=some ei) (hz:ei.zero=some z)
 (hzs:z.cells.size=ei.size) {s x:AV} {ys yx:Value} (hs:VRep K H.length w s ys) (hx:VRep K H.length w x yx) {F:AFr} {os ox:Opd} (hos:os.ev E.G F=s) (hox:ox.ev E.G F=x) {v:AV} {H':zz}
 (he:zr E.G (.app ei.size ei.bytes os ox) F H=some (true,v,H')) :
 yM E K H w (do let v ← Builtin.append_ #[t,u] ty #[ys,yx];pure (.value v)) v H':=by
 simp only [zr,hos,hox] at he
 cases hne:sL H ei.size x with
 | none=>rw [hne] at he;cases he
 | some new =>
 rw [hne] at he
 dsimp only at he
 have lift:∀ {y w'},(Builtin.append_ #[t,u] ty #[ys,yx]).run E.P w=.ok y w'→(do let v ← Builtin.append_ #[t,u] ty #[ys,yx];pure (.value v):Sem Next).run E.P w=.ok (.value y) w':=fun hr=>by simp [hr]
 -- a new array: the elements 'keep' lay in the old one
 have grow:∀ (base:Option Addr) (sLen sCap:Nat) (keep:List AV) (olds:List Value),ys=.slice base sLen sCap→sLen=keep.length→yW K H.length w (flat keep) olds→(∀ e∈keep,e.cells.length=ei.size) →
  (∀ w':World,(∀ a,w'.cell? a=w.cell? a)→(Builtin.firstCells ei.size sLen ys).run E.P w'=.ok olds.toArray w')→SrcOkS E K H.length w ei.size new yx→sCap<sLen+new.length →
  (sLen+new.length) * (ei.bytes+1)≤35184372088832 →
  yM E K H w (do let v ← Builtin.append_ #[t,u] ty #[ys,yx];pure (.value v)) (.sl H.length ei.size 0 (sLen+new.length)) (H++[.arr ei.size (keep++new)]):=by
  rintro base sLen sCap keep olds rfl hkl hko hkk hfo ⟨news,hln,hnr,hnk,hfn⟩ hg hb
  have hnl:news.length=new.length * ei.size:=by rw [hnr.1,xb hnk]
  have hol:olds.length=sLen * ei.size:=by rw [hko.1,xb hkk,hkl]
  have hfn':=hfn new.length (Nat.le_refl _) w.drew (fun _=>rfl)
  rw [List.take_of_length_le (by omega)] at hfn'
  have hrun:=app_grow (w:=w) (ty:=ty) hu hu2 hd hi hz base sLen sCap new.length _ olds news (hln w) (hfo w.drew (fun _=>rfl)) hfn' hg hb
  obtain ⟨hd1,ev1⟩:=h.drew
  have hcap:=grownCap_ge w (sLen+new.length) sCap e
  have hm:Mv K H.length w K H.length w.drew:=Ev.mv h ev1
  have:=ok_newArr hd1 e (es:=keep++new) (k:=ei.size) (n:=sLen+new.length) (cap:=grownCap w (sLen+new.length) sCap e)
   (C:=(olds++(news++(Builtin.zeroCells z.cells (grownCap w (sLen+new.length) sCap e - (sLen+new.length))).toList)).toArray)
   (s:=(pure (.value (.slice (some ⟨w.heap.size,0,none⟩) (sLen+new.length) (grownCap w (sLen+new.length) sCap e))):Sem Next) >>= fun v=>do let _ ← newObj (.cells (olds++(news++(Builtin.zeroCells z.cells (grownCap w (sLen+new.length) sCap e - (sLen+new.length))).toList)).toArray e);pure v)
   (fun x hx=>(List.mem_append.1 hx).elim (hkk x) (hnk x)) (by simp [hkl])
   ⟨olds++news,by
    rw [flat_append]
    refine ⟨by simp [hko.1,hnr.1],fun j c hj=>?_⟩
    rcases Nat.lt_or_ge j (flat keep).length with hlt | hge
    · rw [List.getElem?_append_left hlt] at hj
      obtain ⟨z,e1,e2⟩:=hko.2 j c hj
      exact ⟨z,by rw [List.getElem?_append_left (by rw [hko.1];exact hlt)];exact e1,hm.rep e2⟩
    · rw [List.getElem?_append_right hge] at hj
      obtain ⟨z,e1,e2⟩:=hnr.2 _ c hj
      exact ⟨z,by rw [List.getElem?_append_right (by rw [hko.1];exact hge),hko.1];exact e1,hm.rep e2⟩,fun j z hj=>by
    rw [List.getElem?_toArray,← List.append_assoc]
    rw [List.getElem?_append_left (List.getElem?_eq_some_iff.1 hj).1];exact hj⟩ hcap
   (by
    have e1:(Builtin.zeroCells z.cells (grownCap w (sLen+new.length) sCap e - (sLen+new.length))).size=(grownCap w (sLen+new.length) sCap e - (sLen+new.length)) * ei.size:=by rw [size_zeroCells,hzs]
    simp only [List.size_toArray,List.length_append,Array.length_toList,e1,hol,hnl]
    rw [← Nat.add_assoc,← Nat.add_mul,← Nat.add_mul]
    exact Nat.le_of_eq (by congr 1;omega))
   (by simp;rfl)
  exact opOk_ev ev1 rfl (fun y w' hr=>by
   simp at hr
   obtain ⟨rfl,rfl⟩:=hr
   refine lift (hrun.trans ?_);rfl) (fun w' hr=>by simp at hr) this
 cases s with
 | val sv =>
  split at he
  · rename_i hsv
    cases hsv
    simp only [Option.some.injEq,Prod.mk.injEq,Bool.and_eq_true,decide_eq_true_eq] at he
    obtain ⟨⟨⟨hok,hall⟩,hb⟩,rfl,rfl⟩:=he
    cases hs with
    | val =>
     have hsrc:=srcS_spec h hx hne hok
     rcases Nat.eq_zero_or_pos new.length with h0 | hp
     · obtain rfl:new=[]:=List.length_eq_zero_iff.1 h0
       obtain ⟨news,hln,hnr,hnk,hfn⟩:=hsrc
       have hfn':=hfn 0 (Nat.le_refl _) w (fun _=>rfl)
       simp at hfn'
       have hrun:=app_none (w:=w) (ty:=ty) hu hu2 hd hi none _ (hln w) hfn'
       obtain ⟨h2,ev⟩:=h.phantom H.length ei.size
       rw [List.set_eq_of_length_le (Nat.le_refl _)] at h2 ev
       refine ⟨_,_,_,.inl (lift hrun),?_,h2,ev⟩
       exact .slnil _ _ _ (by simp)
     · have:=grow none 0 0 [] [] rfl rfl ⟨rfl,fun j c hj=>by simp [flat] at hj⟩ (fun e he=>by cases he) (fun w' _=>by simp [Builtin.firstCells]) hsrc (by omega) (by simpa using hb)
       simpa using this
  all_goals first | (cases he;done) | (rename_i hh;cases hh;done) | (rename_i hh _;cases hh;done)
 | sl b k' lo len =>
  dsimp only at he
  cases ha:xj H b ei.size with
  | none=>rw [ha] at he;cases he
  | some es =>
   rw [ha] at he
   simp only [Option.some.injEq,Prod.mk.injEq,Bool.and_eq_true,decide_eq_true_eq] at he
   obtain ⟨⟨⟨⟨⟨hok,hkk⟩,hfull⟩,hall⟩,hb⟩,rfl,rfl⟩:=he
   have hkk:=Nat.eq_of_beq_eq_true hkk
   subst hkk
   have hsrc:=srcS_spec h hx hne hok
   have hbl:b<H.length:=(List.getElem?_eq_some_iff.1 (xr ha)).1
   -- behind a growth the old number is let go
   have kill:∀ {s:Sem Next} {v:AV} {o:AObj},yM E K H w s v (H++[o])→yM E K H w s v (H.set b .dead++[o]):=by
    rintro s v o ⟨y,w',K',hr,hv,hh,ev⟩
    obtain ⟨h3,ev3⟩:=hh.kill b
    have e1:(H++[o]).set b .dead=H.set b .dead++[o]:=by rw [List.set_append_left _ _ hbl]
    rw [e1] at h3 ev3
    refine ⟨y,w',K',hr,?_,h3,ev.trans (ev3.mono (by simp))⟩
    have e2:(H.set b .dead++[o]).length=(H++[o]).length:=by simp
    rw [e2];exact hv
   have hnone:∀ (ba:Option Addr),ys=.slice ba 0 0→len=0→(∀ K' M' w',VRep K' M' w' (.sl H.length ei.size 0 0) ys∨M'≤H.length) →
    yM E K H w (do let v ← Builtin.append_ #[t,u] ty #[ys,yx];pure (.value v)) (.sl H.length ei.size 0 (len+new.length)) (H.set b .dead++[.arr ei.size (es.drop lo++new)]):=by
    rintro ba rfl rfl hvr
    have hdr:es.drop lo=[]:=List.drop_of_length_le (by omega)
    rw [hdr]
    rcases Nat.eq_zero_or_pos new.length with h0 | hp
    · obtain rfl:new=[]:=List.length_eq_zero_iff.1 h0
      obtain ⟨news,hln,hnr,hnk,hfn⟩:=hsrc
      have hfn':=hfn 0 (Nat.le_refl _) w (fun _=>rfl)
      simp at hfn'
      have hrun:=app_none (w:=w) (ty:=ty) hu hu2 hd hi ba _ (hln w) hfn'
      obtain ⟨h2,ev⟩:=h.phantom b ei.size
      refine ⟨_,_,_,.inl (lift hrun),?_,h2,ev⟩
      rcases hvr (K.push H.length none) (H.set b .dead++[AObj.arr ei.size []]).length w with h | h
      · simpa using h
      · rw [List.length_append,List.length_set] at h;exact absurd h (Nat.not_succ_le_self _)
    · have:=kill (grow ba 0 0 [] [] rfl rfl ⟨rfl,fun j c hj=>by simp [flat] at hj⟩ (fun e he=>by cases he) (fun w' _=>by
       cases ba with
       | none=>simp [Builtin.firstCells]
       | some a=>simpa using run_firstCells_some (P:=E.P) w' ei.size 0 a 0 0 [] (by simp) (by simp)) hsrc (by omega) (by simpa using hb))
      simpa using this
   cases hs with
   | slnil=>exact hnone none rfl rfl (fun K' M' w'=>(Nat.lt_or_ge H.length M').elim (fun h=>.inl (.slnil _ _ _ h)) .inr)
   | sl0 _ _ _ a=>exact hnone (some a) rfl rfl (fun K' M' w'=>(Nat.lt_or_ge H.length M').elim (fun h=>.inl (.sl0 _ _ _ a h)) .inr)
   | sl _ _ _ _ cap blk base hM hg hle hsz =>
    obtain ⟨c,cty,hheap,hck,hl⟩:=h.arr (xr ha) hg
    have hdk:∀ e∈es.drop lo,e.cells.length=ei.size:=fun e he=>vd hck e (List.mem_of_mem_drop he)
    have hdl:(es.drop lo).length=len:=by simp;omega
    by_cases hroom:len+new.length≤cap
    · -- in place
      obtain ⟨news,hln,hnr,hnk,hfn⟩:=hsrc
      have hnl:news.length=new.length * ei.size:=by rw [hnr.1,xb hnk]
      have hfn':=hfn new.length (Nat.le_refl _) w (fun _=>rfl)
      rw [List.take_of_length_le (by omega)] at hfn'
      have h1n:=srcOk_one hnk (fun e he=>by have:=List.all_eq_true.1 hall e he;simp only [Bool.and_eq_true] at this;exact this.2) hnr
      have hcs:base+(lo+cap) * ei.size≤c.size:=by
       obtain ⟨c2,t2,f2,g1,g2⟩:=hsz
       rw [hheap] at g1;cases g1;exact g2
      have hfit:base+lo * ei.size+len * ei.size+news.length≤c.size:=by
       refine Nat.le_trans ?_ hcs
       rw [hnl,Nat.add_assoc,Nat.add_assoc,← Nat.add_mul,← Nat.add_mul]
       exact Nat.add_le_add_left (Nat.mul_le_mul_right _ (by omega)) _
      have hrun:=app_room (w:=w) (ty:=ty) hu hu2 hd hi blk (base+lo * ei.size) len cap new.length c cty _ news (hln w) hfn' hroom hheap hfit h1n
      have ht:=touch_setRow w blk c _ cty (0,0) hheap (vw c news (base+lo * ei.size+len * ei.size) (by simpa using hfit))
      have heo:base+lo * ei.size+len * ei.size=base+es.length * ei.size:=by rw [← hfull,Nat.add_mul];omega
      -- first the old number stands for all elements
      obtain ⟨h2,ev2⟩:=h.touch (o':=.arr ei.size (es++new)) (xr ha) trivial hg ht trivial (fun m=>by
       have hall':∀ e∈es++new,e.cells.length=ei.size:=fun e he=>(List.mem_append.1 he).elim (vd hck e) (hnk e)
       refine .arr _ _ _ _ _ _ (setRow_heap w blk c _ cty (0,0) hheap) (fun i e he=>hall' e (List.mem_of_getElem? he)) (fun i e he=>?_)
       rcases Nat.lt_or_ge i es.length with hlt | hge
       · rw [List.getElem?_append_left hlt] at he
         refine tg m (hl i e he) (.inl ?_) (by simpa using hfit)
         rw [hck i e he,heo,Nat.add_assoc]
         exact Nat.add_le_add_left (wh hlt) _
       · rw [List.getElem?_append_right hge] at he
         intro j x hj
         have hjk:j<ei.size:=by rw [← hnk e (List.mem_of_getElem? he)];exact (List.getElem?_eq_some_iff.1 hj).1
         obtain ⟨y,e1,e2⟩:=hnr.2 ((i - es.length) * ei.size+j) x (by rw [uq hnk he hjk];exact hj)
         refine ⟨y,?_,m.rep e2⟩
         have hlt:(i - es.length) * ei.size+j<news.length:=(List.getElem?_eq_some_iff.1 e1).1
         have hq:base+i * ei.size+j=base+lo * ei.size+len * ei.size+((i - es.length) * ei.size+j):=by
          rw [heo,← Nat.add_assoc,Nat.add_assoc base (es.length * ei.size),← Nat.add_mul,show es.length+(i - es.length)=i by omega]
         rw [hq,List.getElem?_toArray,xd _ _ _ _ (by simpa using hfit),if_neg (by omega),if_pos (by omega)]
         rw [show base+lo * ei.size+len * ei.size+((i - es.length) * ei.size+j) - (base+lo * ei.size+len * ei.size)=(i - es.length) * ei.size+j by omega]
         exact e1)
      have hb2:(H.set b (.arr ei.size (es++new)))[b]? = some (.arr ei.size (es++new)):=by simp [hbl]
      obtain ⟨h3,ev3⟩:=h2.rehome (base':=base+lo * ei.size) (o':=.arr ei.size (es.drop lo++new)) hb2 trivial hg trivial (fun m=>by
       obtain ⟨c3,t3,g1,g2,g3⟩:=h2.arr hb2 hg
       have hdrop:es.drop lo++new=(es++new).drop lo:=by rw [List.drop_append_of_le_length (by omega)]
       rw [hdrop]
       refine .arr _ _ _ _ _ _ g1 (fun i e he=>g2 (lo+i) e (by rwa [List.getElem?_drop] at he)) (fun i e he=>?_)
       rw [List.getElem?_drop] at he
       have:=m.lies (g3 (lo+i) e he)
       rwa [show base+lo * ei.size+i * ei.size=base+(lo+i) * ei.size by rw [Nat.add_mul];omega])
      simp only [List.length_set,List.set_set] at h3 ev3
      refine ⟨_,_,_,.inl (lift hrun),?_,h3,ev2.trans ev3⟩
      have hsz':sizeAt (w.setRow blk (c.toList.take (base+lo * ei.size+len * ei.size)++news++c.toList.drop (base+lo * ei.size+len * ei.size+news.length)).toArray) blk (base+lo * ei.size+(0+cap) * ei.size):=by
       refine ⟨_,cty,(0,0),setRow_heap w blk c _ cty (0,0) hheap,?_⟩
       rw [vw c news _ (by simpa using hfit),Nat.zero_add]
       refine Nat.le_trans (Nat.le_of_eq ?_) hcs
       rw [Nat.add_mul];omega
      have:=VRep.sl (K:=K.push H.length (some (blk,base+lo * ei.size))) (M:=(H.set b .dead++[AObj.arr ei.size (es.drop lo++new)]).length) H.length ei.size 0 (len+new.length) cap blk (base+lo * ei.size) (by simp) (Ctx.push_eq _ _ _) hroom hsz'
      simpa using this
    · -- a new array
      have hfirst:∀ w':World,(∀ a,w'.cell? a=w.cell? a)→∃ olds,yW K H.length w (flat (es.drop lo)) olds∧(∀ w':World,(∀ a,w'.cell? a=w.cell? a)→(Builtin.firstCells ei.size len (.slice (some ⟨blk,base+lo * ei.size,none⟩) len cap)).run E.P w'=.ok olds.toArray w'):=by
       intro _ _
       obtain ⟨zs,g1,g2⟩:=vF (K:=K) (M:=H.length) (w:=w) (blk:=blk) (off:=base+lo * ei.size) hdk (fun i e j x he hj=>by
        rw [List.getElem?_drop] at he
        obtain ⟨y,e1,e2⟩:=hl _ e he j x hj
        refine ⟨y,?_,e2⟩
        rw [show base+lo * ei.size+(i * ei.size+j)=base+(lo+i) * ei.size+j by rw [Nat.add_mul];omega]
        simp [World.cell?,hheap,e1])
       refine ⟨zs,g1,fun w' hw=>run_firstCells_some (P:=E.P) w' ei.size len _ len cap zs (by rw [g1.1,xb hdk,hdl]) (fun j v hj=>by rw [xZ,hw];exact g2 j v hj)⟩
      obtain ⟨olds,g1,g2⟩:=hfirst w (fun _=>rfl)
      have:=kill (grow _ len cap (es.drop lo) olds rfl hdl.symm g1 hdk g2 hsrc (by omega) hb)
      exact this
 | slc b k' lo len cap =>
  dsimp only at he
  cases ha:xj H b ei.size with
  | none=>rw [ha] at he;cases he
  | some es =>
   rw [ha] at he
   simp only [Option.some.injEq,Prod.mk.injEq,Bool.and_eq_true,decide_eq_true_eq] at he
   obtain ⟨⟨⟨⟨⟨⟨⟨hok,hkk⟩,hle⟩,hall⟩,hb⟩,hcm⟩,hfit⟩,rfl,rfl⟩:=he
   have hkk:=Nat.eq_of_beq_eq_true hkk
   subst hkk
   have hsrc:=srcS_spec h hx hne hok
   cases hs with
   | slc _ _ _ _ _ blk base hM hg hlc hsz =>
    obtain ⟨c,cty,hheap,hck,hl⟩:=h.arr (xr ha) hg
    have hdk:∀ e∈(es.drop lo).take len,e.cells.length=ei.size:=fun e he=>by
     have:=List.all_eq_true.1 hfit e he
     simp only [Bool.and_eq_true] at this
     exact Nat.eq_of_beq_eq_true this.1
    have hdl:((es.drop lo).take len).length=len:=by simp;omega
    obtain ⟨zs,g1,g2⟩:=vF (K:=K) (M:=H.length) (w:=w) (blk:=blk) (off:=base+lo * ei.size) hdk (fun i e j x he hj=>by
     have he':es[lo+i]? = some e:=by
      rw [List.getElem?_take] at he
      split at he
      · rwa [List.getElem?_drop] at he
      · cases he
     obtain ⟨y,e1,e2⟩:=hl _ e he' j x hj
     refine ⟨y,?_,e2⟩
     rw [show base+lo * ei.size+(i * ei.size+j)=base+(lo+i) * ei.size+j by rw [Nat.add_mul];omega]
     simp [World.cell?,hheap,e1])
    exact grow _ len cap ((es.drop lo).take len) zs rfl hdl.symm g1 hdk (fun w' hw=>run_firstCells_some (P:=E.P) w' ei.size len _ len cap zs (by rw [g1.1,xb hdk,hdl]) (fun j v hj=>by rw [xZ,hw];exact g2 j v hj)) hsrc hcm hb
 | _=>cases he
end
end Go.Am
end
