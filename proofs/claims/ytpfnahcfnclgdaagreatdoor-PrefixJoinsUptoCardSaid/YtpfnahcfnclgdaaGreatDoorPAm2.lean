/- The abstract machine that the walks of this claim are carried out on: no condition. -/
import Derived.Test.YtpfnahcfnclgdaaGreatDoorPAm1
import Derived.Laws.Slices
import Derived.Laws.StructEq
import Derived.Laws.IdiomStrings
import Derived.MapKept
section
namespace Go.Am
section
variable {E:Env} {K:Ctx} {w:World} {H:zz} {M:Nat}
theorem zM {v y:Value} (h:VRep K M w (.val v) y):y=v:=by cases h;rfl
theorem tJ {cs:List AV} {y:Value} (h:VRep K M w (.agg cs) y):∃ ys:List Value,y=.agg ys.toArray∧cs.length=ys.length∧∀ (i:Nat) c z,cs[i]? = some c→ys[i]? = some z→VRep K M w c z:=by
 cases h with
 | agg _ ys hl hh=>exact ⟨ys,rfl,hl,hh⟩
theorem xz {k:IntKind} {n:Int}:VRep K M w (.val (.int k n)) (.int k n):=.val _ (fun cs h=>by cases h)
theorem xD {b:Bool}:VRep K M w (.val (.bool b)) (.bool b):=.val _ (fun cs h=>by cases h)
theorem rep_str {s:ByteArray}:VRep K M w (.val (.string s)) (.string s):=.val _ (fun cs h=>by cases h)
theorem part_spec {P:Program} {t:TypeId} {k:Nat} {agg:Bool} (ht:vJ P t=some (k,agg)) {cs:List AV} {ys:List Value} (hl:cs.length=ys.length)
 (hh:∀ (i:Nat) c z,cs[i]? = some c→ys[i]? = some z→VRep K M w c z) {off:Nat} {v:AV} (hv:vm cs off k agg=some v):∃ y,(part t ys.toArray off).run P w=.ok y w∧VRep K M w v y:=by
 obtain ⟨i,d,hi,hd,rfl,rfl⟩:=szAgg_some ht
 unfold vm at hv
 unfold part
 rw [Sem.run_bind,run_agg hd]
 simp only [Result.andThen_ok]
 cases ha:xI d with
 | true =>
  simp only [ha,if_true] at hv ⊢
  split at hv
  · rename_i hle
    cases hv
    have hle':off+i.size≤cs.length:=by simpa using hle
    refine ⟨.agg ((ys.drop off).take i.size).toArray,?_,?_⟩
    · simp only [Sem.run_bind,xy hi,Result.andThen_ok,Sem.run_pure]
      congr 2
      simp [List.take_drop]
    · refine .agg _ _ (by simp;omega) (fun j c z hc hz=>?_)
      rw [List.getElem?_take] at hc hz
      split at hc
      · rename_i hj
        rw [if_pos hj] at hz
        rw [List.getElem?_drop] at hc hz
        exact hh _ c z hc hz
      · cases hc
  · cases hv
 | false =>
  simp only [ha,Bool.false_eq_true,if_false] at hv ⊢
  cases hdr:cs.drop off with
  | nil=>rw [hdr] at hv;cases hv
  | cons x r =>
   rw [hdr] at hv;cases hv
   have hx:cs[off]? = some v:=by
    have:=congrArg (·[0]?) hdr
    simpa using this
   have hlt:off<ys.length:=by rw [← hl];exact (List.getElem?_eq_some_iff.1 hx).1
   exact ⟨ys[off],by simp [hlt],hh off _ _ hx (List.getElem?_eq_getElem hlt)⟩
theorem ok_fld (h:HRep E K w H) {t:TypeId} {fs:Array Field} {f:Nat} {fd:Field} {k:Nat} {agg:Bool} (hu:E.P.underlying t=some (.struct fs)) (hf:fs[f]? = some fd) (ht:vJ E.P fd.type=some (k,agg))
 {x:AV} {y:Value} (hx:VRep K H.length w x y) {F:AFr} {ox:Opd} (hox:ox.ev E.G F=x) {v:AV} {H':zz} (he:zr E.G (.fld fd.offset k agg ox) F H=some (true,v,H')) :
 yM E K H w (do let v ← Instr.field t y f;pure (.value v)) v H':=by
 simp only [zr,hox,ans] at he
 cases x with
 | agg cs =>
  dsimp only at he
  split at he
  · rename_i v' hv;cases he
    obtain ⟨ys,rfl,hl,hh⟩:=tJ hx
    obtain ⟨z,h1,h2⟩:=part_spec ht hl hh hv
    exact zi h (by simp [Instr.field,zY hu,hf,asAgg,h1]) h2
  · cases he
 | _=>cases he
theorem ok_fa (h:HRep E K w H) {t:TypeId} {fs:Array Field} {f:Nat} {fd:Field} {i:TypeInfo} (hu:E.P.underlying t=some (.struct fs)) (hf:fs[f]? = some fd) (hi:E.P.info? fd.type=some i) (h0:i.size≠0)
 {x:AV} {y:Value} (hx:VRep K H.length w x y) {F:AFr} {ox:Opd} (hox:ox.ev E.G F=x) {v:AV} {H':zz} (he:zr E.G (.fa fd.offset ox) F H=some (true,v,H')) :
 yM E K H w (do let v ← Instr.fieldAt t y f;pure (.value v)) v H':=by
 have run:∀ (blk off:Nat),y=.pointer (some ⟨blk,off,none⟩)→(do let v ← Instr.fieldAt t y f;pure (.value v):Sem Next).run E.P w=.ok (.value (.pointer (some ⟨blk,off+fd.offset,none⟩))) w:=by
  rintro blk off rfl
  simp [Instr.fieldAt,zY hu,hf,Instr.sureAddr,fieldPlace,xy hi,h0,xZ]
 simp only [zr,hox,ans] at he
 cases x with
 | ptr b o =>
  cases he
  cases hx with
  | ptr _ _ blk base hM hg=>exact zi h (run _ _ rfl) (by rw [Nat.add_assoc];exact .ptr _ _ _ _ hM hg)
 | eptr b k i j =>
  cases he
  cases hx with
  | eptr _ _ _ _ blk base hM hg=>exact zi h (run _ _ rfl) (by rw [Nat.add_assoc,Nat.add_assoc];exact .eptr _ _ _ _ _ _ hM hg)
 | iptr cs =>
  cases he
  cases hx with
  | iptr _ f' blk off hI hc hh =>
   refine zi h (run _ _ rfl) (.iptr _ (fun j=>f' (fd.offset+j)) _ _ hI (fun j c hj=>?_) (fun j c hj=>?_))
   · rw [List.getElem?_drop] at hj;rw [Nat.add_assoc];exact hc _ c hj
   · rw [List.getElem?_drop] at hj;exact hh _ c hj
 | _=>cases he
theorem ok_ia (h:HRep E K w H) {t e:TypeId} {ei:TypeInfo} (hu:E.P.underlying t=some (.slice e)) (hi:E.P.info? e=some ei) {x ix:AV} {y iy:Value} (hx:VRep K H.length w x y) (hix:VRep K H.length w ix iy)
 {F:AFr} {ox oi:Opd} (hox:ox.ev E.G F=x) (hoi:oi.ev E.G F=ix) {v:AV} {H':zz} (he:zr E.G (.ia ei.size ox oi) F H=some (true,v,H')) :
 yM E K H w (do let v ← Instr.indexAt t y iy;pure (.value v)) v H':=by
 have run:∀ (blk off len cap:Nat) (k:IntKind) (n:Int),y=.slice (some ⟨blk,off,none⟩) len cap→iy=.int k n→0≤n→n<(len:Int) →
  (do let v ← Instr.indexAt t y iy;pure (.value v):Sem Next).run E.P w=.ok (.value (.pointer (some ⟨blk,off+n.toNat * ei.size,none⟩))) w:=by
  rintro blk off len cap k n rfl rfl h0 h1
  simp [Instr.indexAt,asIntOf,zY hu,xy hi,h0,h1,xZ]
 simp only [zr,hox,hoi] at he
 split at he
 · rename_i k' es k n
   split at he
   · rename_i hk
     have hk:=Nat.eq_of_beq_eq_true hk
     subst hk
     simp only [Option.some.injEq,Prod.mk.injEq,decide_eq_true_eq] at he
     obtain ⟨⟨h0,h1⟩,rfl,rfl⟩:=he
     obtain rfl:=zM hix
     cases hx with
     | islnil=>simp at h1;omega
     | isl _ _ f a cap hle hI hkk hc hh =>
      have hne:es≠[]:=by rintro rfl;simp at h1;omega
      obtain ⟨hIb,hsp⟩:=hI hne
      obtain ⟨ab,ao,asp⟩:=a
      dsimp only at hsp;subst hsp
      have hn:n.toNat<es.length:=by omega
      have hget:es[n.toNat]? = some (es.getD n.toNat .undef):=by rw [List.getD_eq_getElem?_getD,List.getElem?_eq_getElem hn];rfl
      refine zi h (run ab ao es.length cap k n rfl rfl h0 h1) (.iptr _ (f n.toNat) _ _ hIb (fun j c hj=>?_) (fun j c hj=>hh _ _ j c hget hj))
      have:=hc _ _ j c hget hj
      rwa [← Nat.add_assoc] at this
   · cases he
 · rename_i b k' lo len k n
   split at he
   · rename_i hk
     have hk:=Nat.eq_of_beq_eq_true hk
     subst hk
     simp only [Option.some.injEq,Prod.mk.injEq,decide_eq_true_eq] at he
     obtain ⟨⟨h0,h1⟩,rfl,rfl⟩:=he
     obtain rfl:=zM hix
     cases hx with
     | slnil=>omega
     | sl0=>omega
     | sl _ _ _ _ cap blk base hM hg hle hs =>
      refine zi h (run blk _ len cap k n rfl rfl h0 h1) ?_
      have:=VRep.eptr (K:=K) (M:=H.length) (w:=w) b ei.size (lo+n.toNat) 0 blk base hM hg
      rwa [show base+((lo+n.toNat) * ei.size+0)=base+lo * ei.size+n.toNat * ei.size by rw [Nat.add_mul];omega] at this
   · cases he
 · cases he
theorem ok_iaA (h:HRep E K w H) {t e:TypeId} {len:Nat} {ei:TypeInfo} (hu:E.P.underlying t=some (.array len e)) (hi:E.P.info? e=some ei) {x ix:AV} {y iy:Value} (hx:VRep K H.length w x y) (hix:VRep K H.length w ix iy)
 {F:AFr} {ox oi:Opd} (hox:ox.ev E.G F=x) (hoi:oi.ev E.G F=ix) {v:AV} {H':zz} (he:zr E.G (.iaA ei.size len ox oi) F H=some (true,v,H')) :
 yM E K H w (do let v ← Instr.indexAt t y iy;pure (.value v)) v H':=by
 have run:∀ (blk off:Nat) (k:IntKind) (n:Int),y=.pointer (some ⟨blk,off,none⟩)→iy=.int k n→0≤n→n<(len:Int) →
  (do let v ← Instr.indexAt t y iy;pure (.value v):Sem Next).run E.P w=.ok (.value (.pointer (some ⟨blk,off+n.toNat * ei.size,none⟩))) w:=by
  rintro blk off k n rfl rfl h0 h1
  simp [Instr.indexAt,asIntOf,zY hu,xy hi,h0,h1,xZ,Instr.sureAddr]
 simp only [zr,hox,hoi] at he
 split at he
 · rename_i b o k n
   simp only [Option.some.injEq,Prod.mk.injEq,decide_eq_true_eq] at he
   obtain ⟨⟨h0,h1⟩,rfl,rfl⟩:=he
   obtain rfl:=zM hix
   cases hx with
   | ptr _ _ blk base hM hg=>exact zi h (run _ _ k n rfl rfl h0 h1) (by rw [Nat.add_assoc];exact .ptr _ _ _ _ hM hg)
 · rename_i cs k n
   simp only [Option.some.injEq,Prod.mk.injEq,decide_eq_true_eq] at he
   obtain ⟨⟨h0,h1⟩,rfl,rfl⟩:=he
   obtain rfl:=zM hix
   cases hx with
   | iptr _ f' blk off hI hc hh =>
    refine zi h (run _ _ k n rfl rfl h0 h1) (.iptr _ (fun j=>f' (n.toNat * ei.size+j)) _ _ hI (fun j c hj=>?_) (fun j c hj=>?_))
    · rw [List.getElem?_take] at hj
      split at hj
      · rw [List.getElem?_drop] at hj;rw [Nat.add_assoc];exact hc _ c hj
      · cases hj
    · rw [List.getElem?_take] at hj
      split at hj
      · rw [List.getElem?_drop] at hj;exact hh _ c hj
      · cases hj
 · cases he
theorem ok_ixA (h:HRep E K w H) {t e:TypeId} {len k:Nat} {agg:Bool} (hu:E.P.underlying t=some (.array len e)) (hi:vJ E.P e=some (k,agg)) {x ix:AV} {y iy:Value} (hx:VRep K H.length w x y) (hix:VRep K H.length w ix iy)
 {F:AFr} {ox oi:Opd} (hox:ox.ev E.G F=x) (hoi:oi.ev E.G F=ix) {v:AV} {H':zz} (he:zr E.G (.ixA k len agg ox oi) F H=some (true,v,H')) :
 yM E K H w (do let v ← Instr.index t y iy;pure (.value v)) v H':=by
 simp only [zr,hox,hoi] at he
 split at he
 · rename_i cs kk n
   split at he
   · rename_i v' hv
     simp only [Option.some.injEq,Prod.mk.injEq,decide_eq_true_eq] at he
     obtain ⟨⟨h0,h1⟩,rfl,rfl⟩:=he
     obtain rfl:=zM hix
     obtain ⟨ys,rfl,hl,hh⟩:=tJ hx
     obtain ⟨i,d,hi1,hd,hik,hda⟩:=szAgg_some hi
     obtain ⟨z,g1,g2⟩:=part_spec hi hl hh hv
     rw [← hik] at g1
     exact zi h (by simp [Instr.index,asIntOf,zY hu,h0,h1,xy hi1,g1]) g2
   · cases he
 · cases he
theorem getElem?_bytes (s:ByteArray) (n:Nat) (h:n<s.size):s[n]? = some (s.data.getD n 0):=by
 have h':n<s.data.size:=h
 have e1:s[n]? = some s[n]:=by simp [getElem?_pos,h]
 rw [e1]
 congr 1
 simp only [Array.getD,h']
 rfl
theorem ok_ixS (h:HRep E K w H) {t:TypeId} (hu:E.P.underlying t=some .string) {x ix:AV} {y iy:Value} (hx:VRep K H.length w x y) (hix:VRep K H.length w ix iy)
 {F:AFr} {ox oi:Opd} (hox:ox.ev E.G F=x) (hoi:oi.ev E.G F=ix) {v:AV} {H':zz} (he:zr E.G (.ixS ox oi) F H=some (true,v,H')) :
 yM E K H w (do let v ← Instr.index t y iy;pure (.value v)) v H':=by
 simp only [zr,hox,hoi] at he
 split at he
 · rename_i s k n
   simp only [Option.some.injEq,Prod.mk.injEq,decide_eq_true_eq] at he
   obtain ⟨⟨h0,h1⟩,rfl,rfl⟩:=he
   obtain rfl:=zM hix
   obtain rfl:=zM hx
   have hn:n.toNat<s.size:=by omega
   exact zi h (by simp [Instr.index,asIntOf,zY hu,h0,getElem?_bytes s n.toNat hn]) xz
 · cases he
theorem ok_ext (h:HRep E K w H) {i:Nat} {x:AV} {y:Value} (hx:VRep K H.length w x y) {F:AFr} {ox:Opd} (hox:ox.ev E.G F=x) {v:AV} {H':zz} (he:zr E.G (.ext ox i) F H=some (true,v,H')) :
 yM E K H w (do let v ← Instr.extract y i;pure (.value v)) v H':=by
 simp only [zr,hox,ans] at he
 cases x with
 | tup cs =>
  dsimp only at he
  split at he
  · rename_i v' hv;cases he
    cases hx with
    | tup _ ys hl hh =>
     have hlt:i<ys.length:=by rw [← hl];exact (List.getElem?_eq_some_iff.1 hv).1
     exact zi h (y:=ys[i]) (by simp [Instr.extract,hlt]) (hh i _ _ hv (List.getElem?_eq_getElem hlt))
  · cases he
 | _=>cases he
end
end Go.Am
end
section
namespace Go.Am
section
variable {E:Env} {K:Ctx} {w:World} {H:zz} {M:Nat}
def wF (o:Option Int) (v:Option Value):Prop :=
 match o,v with
 | none,none=>True
 | some n,some (.int _ m)=>m=n
 | _,_=>False
theorem yQ {F:AFr} {ρ:Operand→Value} (hρ:Ops E K H w F ρ) {x:Option Operand} {n:Option Int} (h:zE E.G F (x.map opd)=some n):wF n (x.map ρ):=by
 cases x with
 | none=>simp [zE] at h;subst h;trivial
 | some x =>
  simp only [Option.map_some,zE] at h
  have hx:=hρ x
  split at h
  · rename_i k i e
    cases h
    rw [e] at hx
    have:=zM hx
    simp [wF,this]
  · cases h
theorem bounds_run (P:Program) (w:World) (isSlice:Bool) (len cap:Nat) {lo hi:Option Value} {l h:Option Int} (hl:wF l lo) (hh:wF h hi) (h0:0≤l.getD 0) (h1:l.getD 0≤h.getD len) (h2:h.getD len≤(cap:Int)) :
 (Instr.sliceBounds isSlice len cap lo hi none).run P w=.ok ((l.getD 0).toNat,(h.getD len).toNat,cap) w:=by
 have hb:∀ (k:IntKind) (i:Int) (y:Nat) (c:BoundsCode),0≤i→i≤y→(Instr.sliceBound (.int k i) y c).run P w=.ok i.toNat w:=fun k i y c a b=>by simp [Instr.sliceBound,asIntOf,a,b]
 cases lo with
 | none =>
  cases l with
  | some _=>exact hl.elim
  | none =>
   cases hi with
   | none=>cases h with
    | some _=>exact hh.elim
    | none=>simp [Instr.sliceBounds]
   | some v=>cases h with
    | none=>exact hh.elim
    | some n=>cases v<;>first | exact hh.elim | (simp only [wF] at hh;subst hh;simp at h1 h2;simp [Instr.sliceBounds,hb _ _ _ _ h1 h2])
 | some u =>
  cases l with
  | none=>exact hl.elim
  | some m=>cases u<;>first | exact hl.elim | (
   simp only [wF] at hl;subst hl
   cases hi with
   | none=>cases h with
    | some _=>exact hh.elim
    | none=>simp at h0 h1 h2;simp [Instr.sliceBounds,hb _ _ _ _ h0 h1]
   | some v=>cases h with
    | none=>exact hh.elim
    | some n=>cases v<;>first | exact hh.elim | (
     rename_i kk mm
     simp only [wF] at hh;subst hh;simp at h0 h1 h2
     have h3:0≤mm:=by omega
     have h4:(mm.toNat:Int)=mm:=Int.toNat_of_nonneg h3
     simp [Instr.sliceBounds,hb _ _ _ _ h3 h2,hb _ _ _ _ h0 (by omega:_≤(mm.toNat:Int))]))
theorem vf {P:Program} (w:World) {t e:TypeId} {ei:TypeInfo} (hu:P.underlying t=some (.slice e)) (hi:P.info? e=some ei) (a:Option Addr) (len cap:Nat) {lo hi':Option Value} {l h:Option Int} (hl:wF l lo) (hh:wF h hi')
 (h0:0≤l.getD 0) (h1:l.getD 0≤h.getD len) (h2:h.getD len≤(cap:Int)) :
 (Instr.sliceAt t (.slice a len cap) lo hi' none).run P w =
  .ok (.slice (if cap=(l.getD 0).toNat then a else a.map (·.add ((l.getD 0).toNat * ei.size))) ((h.getD len).toNat - (l.getD 0).toNat) (cap - (l.getD 0).toNat)) w:=by
 have hb:=bounds_run P w true len cap hl hh h0 h1 h2
 simp [Instr.sliceAt,Instr.slice,zY hu,hb,xy hi]
theorem ok_slc (h:HRep E K w H) {t e:TypeId} {ei:TypeInfo} (hu:E.P.underlying t=some (.slice e)) (hi:E.P.info? e=some ei) {F:AFr} {ρ:Operand→Value} (hρ:Ops E K H w F ρ) {ox:Operand} {lo hh:Option Operand} {v:AV} {H':zz}
 (he:zr E.G (.slc ei.size (opd ox) (lo.map opd) (hh.map opd)) F H=some (true,v,H')) :
 yM E K H w (do let v ← Instr.sliceAt t (ρ ox) (lo.map ρ) (hh.map ρ) none;pure (.value v)) v H':=by
 have hx:=hρ ox
 simp only [zr] at he
 split at he
 · rename_i l h' k' es hl hh' hev
   have hl:=yQ hρ hl
   have hh':=yQ hρ hh'
   split at he
   · rename_i hk
     have hk:=Nat.eq_of_beq_eq_true hk
     subst hk
     rw [hev] at hx
     simp only [Option.some.injEq,Prod.mk.injEq,decide_eq_true_eq] at he
     obtain ⟨⟨h0,h1,h2⟩,rfl,rfl⟩:=he
     generalize hy:ρ ox=y at hx
     cases hx with
     | islnil =>
      simp only [List.length_nil] at h1 h2
      have hr:=vf w hu hi none 0 0 hl hh' h0 (by simpa using h1) (by simpa using h2)
      have e1:(l.getD 0).toNat=0:=by simp at h1 h2;omega
      have e2:(h'.getD (0:Nat)).toNat=0:=by simp at h1 h2 ⊢;omega
      simp only [e1,e2] at hr
      refine zi h (by simp [hr];rfl) ?_
      simp only [List.take_nil,List.drop_nil]
      exact .islnil _
     | isl _ _ f a cap hle hI hkk hc hh =>
      have hr:=vf w hu hi (some a) es.length cap hl hh' h0 h1 (by omega)
      have hlen:((es.take (h'.getD es.length).toNat).drop (l.getD 0).toNat).length=(h'.getD es.length).toNat - (l.getD 0).toNat:=by simp;omega
      refine zi h (by simp [hr];rfl) ?_
      rw [← hlen]
      have hget:∀ (i:Nat) e,((es.take (h'.getD es.length).toNat).drop (l.getD 0).toNat)[i]? = some e→es[(l.getD 0).toNat+i]? = some e:=by
       intro i e hi
       rw [List.getElem?_drop,List.getElem?_take] at hi
       split at hi
       · exact hi
       · cases hi
      by_cases hcl:cap=(l.getD 0).toNat
      · have hnil:(es.take (h'.getD es.length).toNat).drop (l.getD 0).toNat=[]:=List.length_eq_zero_iff.1 (by rw [hlen];omega)
        rw [hnil]
        have:=VRep.isl (K:=K) (M:=H.length) (w:=w) ei.size [] f a (cap - (l.getD 0).toNat) (Nat.zero_le _) (fun h=>absurd rfl h) (fun i e h=>by simp at h) (fun i e j c h=>by simp at h) (fun i e j c h=>by simp at h)
        simpa [hcl] using this
      · rw [if_neg hcl]
        rcases Nat.eq_zero_or_pos es.length with hz | hpos
        · have hnil:(es.take (h'.getD es.length).toNat).drop (l.getD 0).toNat=[]:=List.length_eq_zero_iff.1 (by rw [hlen];omega)
          rw [hnil]
          have:=VRep.isl (K:=K) (M:=H.length) (w:=w) ei.size [] f (a.add ((l.getD 0).toNat * ei.size)) (cap - (l.getD 0).toNat) (Nat.zero_le _) (fun h=>absurd rfl h) (fun i e h=>by simp at h) (fun i e j c h=>by simp at h) (fun i e j c h=>by simp at h)
          simpa using this
        · have hne:es≠[]:=List.ne_nil_of_length_pos hpos
          obtain ⟨hIb,hsp⟩:=hI hne
          obtain ⟨ab,ao,asp⟩:=a
          dsimp only at hsp;subst hsp
          have:=VRep.isl (K:=K) (M:=H.length) (w:=w) ei.size ((es.take (h'.getD es.length).toNat).drop (l.getD 0).toNat) (fun i j=>f ((l.getD 0).toNat+i) j) ⟨ab,ao+(l.getD 0).toNat * ei.size,none⟩ (cap - (l.getD 0).toNat)
           (by rw [hlen];omega) (fun _=>⟨hIb,rfl⟩) (fun i e h=>hkk _ e (hget i e h)) (fun i e j c h1 h2=>by
            have:=hc _ e j c (hget i e h1) h2
            dsimp only at this ⊢
            rwa [show ao+(l.getD 0).toNat * ei.size+(i * ei.size+j)=ao+(((l.getD 0).toNat+i) * ei.size+j) by rw [Nat.add_mul];omega]) (fun i e j c h1 h2=>hh _ e j c (hget i e h1) h2)
          simpa [xZ] using this
   · cases he
 · rename_i l h' b k' lo' len hl hh' hev
   have hl:=yQ hρ hl
   have hh':=yQ hρ hh'
   split at he
   · rename_i hk
     have hk:=Nat.eq_of_beq_eq_true hk
     subst hk
     rw [hev] at hx
     simp only [Option.some.injEq,Prod.mk.injEq,decide_eq_true_eq] at he
     obtain ⟨⟨h0,h1,h2⟩,rfl,rfl⟩:=he
     generalize hy:ρ ox=y at hx
     cases hx with
     | slnil _ _ _ hM =>
      have hr:=vf w hu hi none 0 0 hl hh' h0 h1 h2
      have e1:(l.getD 0).toNat=0:=by simp at h1 h2;omega
      have e2:(h'.getD (0:Nat)).toNat=0:=by simp at h1 h2 ⊢;omega
      simp only [e1,e2] at hr ⊢
      exact zi h (y:=.slice none 0 0) (by simp [hr]) (.slnil _ _ _ hM)
     | sl0 _ _ _ a hM =>
      have hr:=vf w hu hi (some a) 0 0 hl hh' h0 h1 h2
      have e1:(l.getD 0).toNat=0:=by simp at h1 h2;omega
      have e2:(h'.getD (0:Nat)).toNat=0:=by simp at h1 h2 ⊢;omega
      simp only [e1,e2] at hr ⊢
      exact zi h (y:=.slice (some a) 0 0) (by simp [hr]) (.sl0 _ _ _ a hM)
     | sl _ _ _ _ cap blk base hM hg hle hs =>
      have hr:=vf w hu hi (some ⟨blk,base+lo' * ei.size,none⟩) len cap hl hh' h0 h1 (by omega)
      refine zi h (by simp [hr];rfl) ?_
      by_cases hcl:cap=(l.getD 0).toNat
      · have e1:(h'.getD (len:Nat)).toNat - (l.getD 0).toNat=0:=by omega
        rw [e1]
        have:=VRep.sl0 (K:=K) (M:=H.length) (w:=w) b ei.size (lo'+(l.getD 0).toNat) ⟨blk,base+lo' * ei.size,none⟩ hM
        simpa [hcl] using this
      · have:=VRep.sl (K:=K) (M:=H.length) (w:=w) b ei.size (lo'+(l.getD 0).toNat) ((h'.getD (len:Nat)).toNat - (l.getD 0).toNat) (cap - (l.getD 0).toNat) blk base hM hg (by omega)
         (by
          obtain ⟨c2,t2,f2,g1,g2⟩:=hs
          refine ⟨c2,t2,f2,g1,?_⟩
          rwa [show lo'+(l.getD 0).toNat+(cap - (l.getD 0).toNat)=lo'+cap by omega])
        rw [if_neg hcl]
        simpa [xZ,show base+lo' * ei.size+(l.getD 0).toNat * ei.size=base+(lo'+(l.getD 0).toNat) * ei.size by rw [Nat.add_mul];omega] using this
   · cases he
 · rename_i l h' hl hh' hev
   have hl:=yQ hρ hl
   have hh':=yQ hρ hh'
   rw [hev] at hx
   have hy:=zM hx
   simp only [Option.some.injEq,Prod.mk.injEq,decide_eq_true_eq] at he
   obtain ⟨⟨h0,h1⟩,rfl,rfl⟩:=he
   have hr:=vf w hu hi none 0 0 hl hh' (by omega) (by simp [h0,h1]) (by simp [h1])
   rw [hy]
   refine zi h (y:=.slice none 0 0) ?_ (.val _ (fun cs h=>by cases h))
   simp only [h0,Int.toNat_zero] at hr
   have e2:(h'.getD (0:Nat)).toNat=0:=by simp [h1]
   simp only [e2] at hr
   simp [hr]
 · cases he
theorem ok_slcs (h:HRep E K w H) {t:TypeId} (hu:E.P.underlying t=some .string) {F:AFr} {ρ:Operand→Value} (hρ:Ops E K H w F ρ) {ox:Operand} {lo hh:Option Operand} {v:AV} {H':zz}
 (he:zr E.G (.slcs (opd ox) (lo.map opd) (hh.map opd)) F H=some (true,v,H')) :
 yM E K H w (do let v ← Instr.sliceAt t (ρ ox) (lo.map ρ) (hh.map ρ) none;pure (.value v)) v H':=by
 have hx:=hρ ox
 simp only [zr] at he
 split at he
 · rename_i l h' s hl hh' hev
   have hl:=yQ hρ hl
   have hh':=yQ hρ hh'
   rw [hev] at hx
   simp only [Option.some.injEq,Prod.mk.injEq,decide_eq_true_eq] at he
   obtain ⟨⟨h0,h1,h2⟩,rfl,rfl⟩:=he
   have hy:=zM hx
   have hb:=bounds_run E.P w false s.size s.size hl hh' h0 h1 h2
   exact zi h (by simp [Instr.sliceAt,Instr.slice,zY hu,hy,hb]) rep_str
 · cases he
end
end Go.Am
end
section
namespace Go.Am
section
variable {E:Env} {K:Ctx} {w:World} {H:zz} {M:Nat}
theorem zW {P:Program} {s:Sem Value} {y:Value} {w w':World} (h:s.run P w=.ok y w'):(do let v ← s;pure (.value v):Sem Next).run P w=.ok (.value y) w':=by simp [h]
theorem ok_bin (h:HRep E K w H) {op:BinOp} {t:TypeId} {ox oy:Operand} {x y:AV} {yx yy:Value} (hx:VRep K H.length w x yx) (hy:VRep K H.length w y yy) {v:AV} {H':zz}
 (he:wa op x y H=some (true,v,H')):yM E K H w (do let v ← (do eqGuard op t ox oy yx yy;binOp op t yx yy);pure (.value v)) v H':=by
 unfold wa at he
 split at he
 · rename_i k a k' b
   obtain rfl:=zM hx
   obtain rfl:=zM hy
   split at he
   · rename_i hk
     subst hk
     have hg:(eqGuard op t ox oy (.int k a) (.int k b)).run E.P w=.ok () w:=by
      unfold eqGuard;cases op<;>simp
     split at he
     · cases he;exact zi h (zW (by simp [hg,binOp,Op.intArith])) xz
     · cases he;exact zi h (zW (by simp [hg,binOp,Op.intArith])) xz
     · cases he;exact zi h (zW (by simp [hg,binOp,Op.intArith])) xz
     · simp only [Option.some.injEq,Prod.mk.injEq,Bool.not_eq_true'] at he
       obtain ⟨h0,rfl,rfl⟩:=he
       have h0:¬ b=0:=by simpa using h0
       exact zi h (zW (by simp [hg,binOp,Op.intDiv,h0])) xz
     · simp only [Option.some.injEq,Prod.mk.injEq,Bool.not_eq_true'] at he
       obtain ⟨h0,rfl,rfl⟩:=he
       have h0:¬ b=0:=by simpa using h0
       exact zi h (zW (by simp [hg,binOp,Op.intDiv,h0])) xz
     · split at he
       · rename_i r hr
         cases he
         refine zi h (zW (y:=.bool r) ?_) xD
         simp only [Sem.run_bind,hg,Result.andThen_ok]
         cases op<;>simp only [rW,Option.some.injEq,reduceCtorEq] at hr<;>first | (cases hr;done) | (subst hr;simp [binOp,Op.intCmp])
       · cases he
   · cases he
 · rename_i a b
   obtain rfl:=zM hx
   obtain rfl:=zM hy
   have hg:(eqGuard op t ox oy (.string a) (.string b)).run E.P w=.ok () w:=by
    unfold eqGuard;cases op<;>simp
   split at he
   · simp only [Option.some.injEq,Prod.mk.injEq,decide_eq_true_eq] at he
     obtain ⟨h0,rfl,rfl⟩:=he
     refine zi h (zW ?_) rep_str
     have:¬ (9223372036854775807<((a.size:Int)+(b.size:Int))):=by omega
     simp [hg,binOp,Op.stringOp,IntKind.max,IntKind.signed,IntKind.bits,this]
   · cases he;exact zi h (zW (by simp [hg,binOp,Op.stringOp])) xD
   · cases he;exact zi h (zW (by simp [hg,binOp,Op.stringOp])) xD
   · cases he
 · cases he
theorem run_equal_bool {P:Program} {t:TypeId} (hu:P.underlying t=some .bool) (a b:Bool) (w:World):(Op.equal t (.bool a) (.bool b)).run P w=.ok (a == b) w:=by
 have h:∀ d,(Op.equalIn (d+1) t (.bool a) (.bool b)).run P w=.ok (a == b) w:=fun d=>by simp [Op.equalIn,zY hu]
 exact h 9999
theorem ok_eqb (h:HRep E K w H) {neq:Bool} {t:TypeId} (hu:E.P.underlying t=some .bool) {ox oy:Operand} {a b:Bool} :
 yM E K H w (do let v ← (do eqGuard (if neq then .neq else .eql) t ox oy (.bool a) (.bool b);binOp (if neq then .neq else .eql) t (.bool a) (.bool b));pure (.value v)) (.val (.bool (if neq then !(a == b) else (a == b)))) H:=by
 have hg:(eqGuard (if neq then .neq else .eql) t ox oy (.bool a) (.bool b)).run E.P w=.ok () w:=by unfold eqGuard;cases neq<;>simp
 refine zi h (zW ?_) xD
 simp only [Sem.run_bind,hg,Result.andThen_ok]
 cases neq<;>simp [binOp,run_equal_bool hu]
theorem tY {xs:List Operand} {F:AFr} {ρ:Operand→Value} (hρ:Ops E K H w F ρ):∀ (i:Nat) c y,(xs.map fun x=>(opd x).ev E.G F)[i]? = some c→(xs.map ρ)[i]? = some y→VRep K H.length w c y:=by
 intro i c y hc hy
 simp at hc hy
 obtain ⟨a,ha,rfl⟩:=hc
 obtain ⟨b,hb,rfl⟩:=hy
 rw [ha] at hb;cases hb
 exact hρ a
theorem ok_len (h:HRep E K w H) {t ty e:TypeId} (hu:E.P.underlying t=some (.slice e)) {x:AV} {y:Value} (hx:VRep K H.length w x y) {F:AFr} {ox:Opd} (hox:ox.ev E.G F=x) {v:AV} {H':zz}
 (he:zr E.G (.len ox) F H=some (true,v,H')):yM E K H w (do let v ← Builtin.len_ #[t] ty #[y];pure (.value v)) v H':=by
 have sl:∀ b n c,(Builtin.len_ #[t] ty #[.slice b n c]).run E.P w=.ok (.int .i64 n) w:=fun b n c=>by
  simp [Builtin.len_,zY hu,goInt]
 simp only [zr,hox,ans] at he
 split at he
 · cases he
   cases hx with
   | islnil=>exact zi h (zW (sl _ _ _)) xz
   | isl=>exact zi h (zW (sl _ _ _)) xz
 · cases he
   cases hx with
   | slnil=>exact zi h (zW (sl _ _ _)) xz
   | sl0=>exact zi h (zW (sl _ _ _)) xz
   | sl=>exact zi h (zW (sl _ _ _)) xz
 · cases he
   obtain rfl:=zM hx
   exact zi h (zW (sl _ _ _)) xz
 · cases he
theorem ok_lens (h:HRep E K w H) {t ty:TypeId} (hu:E.P.underlying t=some .string) {x:AV} {y:Value} (hx:VRep K H.length w x y) {F:AFr} {ox:Opd} (hox:ox.ev E.G F=x) {v:AV} {H':zz}
 (he:zr E.G (.lens ox) F H=some (true,v,H')):yM E K H w (do let v ← Builtin.len_ #[t] ty #[y];pure (.value v)) v H':=by
 simp only [zr,hox,ans] at he
 split at he
 · cases he
   obtain rfl:=zM hx
   exact zi h (zW (by simp [Builtin.len_,zY hu,goInt])) xz
 · cases he
theorem ok_mx (h:HRep E K w H) {ts:Array TypeId} {ty:TypeId} {x y:AV} {yx yy:Value} (hx:VRep K H.length w x yx) (hy:VRep K H.length w y yy) {F:AFr} {ox oy:Opd} (hox:ox.ev E.G F=x) (hoy:oy.ev E.G F=y) {v:AV} {H':zz}
 (he:zr E.G (.mx [ox,oy]) F H=some (true,v,H')):yM E K H w (do let v ← Builtin.max_ ts ty #[yx,yy];pure (.value v)) v H':=by
 simp only [zr,List.map_cons,List.map_nil,hox,hoy,ans] at he
 split at he
 · rename_i k a k' b heq
   cases heq
   obtain rfl:=zM hx
   obtain rfl:=zM hy
   split at he
   · rename_i hk;subst hk;cases he
     exact zi h (zW (by simp [Builtin.max_,Builtin.max2])) xz
   · cases he
 · cases he
theorem ok_mn (h:HRep E K w H) {ts:Array TypeId} {ty:TypeId} {x y:AV} {yx yy:Value} (hx:VRep K H.length w x yx) (hy:VRep K H.length w y yy) {F:AFr} {ox oy:Opd} (hox:ox.ev E.G F=x) (hoy:oy.ev E.G F=y) {v:AV} {H':zz}
 (he:zr E.G (.mn [ox,oy]) F H=some (true,v,H')):yM E K H w (do let v ← Builtin.min_ ts ty #[yx,yy];pure (.value v)) v H':=by
 simp only [zr,List.map_cons,List.map_nil,hox,hoy,ans] at he
 split at he
 · rename_i k a k' b heq
   cases heq
   obtain rfl:=zM hx
   obtain rfl:=zM hy
   split at he
   · rename_i hk;subst hk;cases he
     exact zi h (zW (by simp [Builtin.min_,Builtin.min2])) xz
   · cases he
 · cases he
theorem ok_un (h:HRep E K w H) {op:UnOp} {x:AV} {y:Value} (hx:VRep K H.length w x y) {F:AFr} {ox:Opd} (hox:ox.ev E.G F=x) {v:AV} {H':zz}
 (he:zr E.G (.un op ox) F H=some (true,v,H')):yM E K H w (do let v ← Op.unary op y;pure (.value v)) v H':=by
 simp only [zr,hox,ans] at he
 split at he
 · cases he;obtain rfl:=zM hx;exact zi h (zW (by simp [Op.unary])) xD
 · cases he;obtain rfl:=zM hx;exact zi h (zW (by simp [Op.unary,Op.intArith])) xz
 · cases he
theorem ok_nilchk (h:HRep E K w H) {x:AV} {y:Value} (hx:VRep K H.length w x y) {F:AFr} {ox:Opd} (hox:ox.ev E.G F=x) {v:AV} {H':zz} {o:Oper} {ρ:Operand→Value} {xo:Operand} (ho:o.op=.nilCheck xo) (hy:ρ xo=y)
 (he:zr E.G (.nilchk ox) F H=some (true,v,H')):yM E K H w (execOp ρ o) v H':=by
 have fin:v=x→H'=H→(execOp ρ o).run E.P w=.ok (.value y) w→yM E K H w (execOp ρ o) v H':=fun a b c=>by subst a b;exact zi h c hx
 simp only [zr,hox,ans] at he
 split at he<;>(try cases he)
 · cases hx with | ptr=>exact fin rfl rfl (by simp [execOp,ho,hy])
 · cases hx with | eptr=>exact fin rfl rfl (by simp [execOp,ho,hy])
 · cases hx with | iptr=>exact fin rfl rfl (by simp [execOp,ho,hy])
 · cases hx with | fn=>exact fin rfl rfl (by simp [execOp,ho,hy])
 · cases hx with | yld=>exact fin rfl rfl (by simp [execOp,ho,hy])
 · cases hx with | iface=>exact fin rfl rfl (by simp [execOp,ho,hy])
theorem ok_mkslice (h:HRep E K w H) {t e:TypeId} {ei:TypeInfo} {z:Value} (hu:E.P.underlying t=some (.slice e)) (hi:E.P.info? e=some ei) (hz:ei.zero=some z) (hzs:z.cells.size=ei.size) (_hk1:1≤ei.size) {l c:AV} {yl yc:Value}
 (hl:VRep K H.length w l yl) (hc:VRep K H.length w c yc) {F:AFr} {ol oc:Opd} (hol:ol.ev E.G F=l) (hoc:oc.ev E.G F=c) {v:AV} {H':zz}
 (he:zr E.G (.mkslice ei.size ei.bytes (ofValue z) ol oc) F H=some (true,v,H')):yM E K H w (do let v ← Instr.makeSlice t yl yc;pure (.value v)) v H':=by
 simp only [zr,hol,hoc] at he
 split at he
 · rename_i n m
   obtain rfl:=zM hl
   obtain rfl:=zM hc
   simp only [Option.some.injEq,Prod.mk.injEq,Bool.and_eq_true,decide_eq_true_eq] at he
   obtain ⟨⟨⟨⟨h0,rfl,hb,hn⟩,hone⟩,hks⟩,rfl,rfl⟩:=he
   have hks:=Nat.eq_of_beq_eq_true hks
   have hb2:n.toNat * ei.bytes≤35184372088832:=Nat.le_trans (Nat.mul_le_mul_left _ (Nat.le_succ _)) hb
   have hb3:(ei.bytes:Int) * n≤281474976710656:=by
    have e1:((n.toNat * ei.bytes:Nat):Int)=(ei.bytes:Int) * n:=by rw [Int.natCast_mul,Int.toNat_of_nonneg h0,Int.mul_comm]
    omega
   have hrun:=run_make (P:=E.P) w t e ei z hu hi hz .i64 .i64 n n h0 (Int.le_refl _) hb3 (by omega)
   obtain ⟨hcr,_⟩:=uQ (ww (K:=K) (M:=H.length) (w:=w) z) hone
   have hall:∀ x∈List.replicate n.toNat (ofValue z),x.cells.length=ei.size:=fun x hx=>by rw [(List.mem_replicate.1 hx).2];exact hks
   refine ok_newArr h e (k:=ei.size) (es:=List.replicate n.toNat (ofValue z)) (n:=n.toNat) (cap:=n.toNat) hall (by simp) ⟨(madeCells z.cells (n.toNat * ei.size)).toList,⟨?_,?_⟩,fun j z hz=>by simpa using hz⟩ (Nat.le_refl _) (by rw [size_madeCells];exact Nat.le_refl _) (zW hrun)
   · rw [xb hall];simp [size_madeCells]
   · intro q x hq
     obtain ⟨i,j,e',g1,g2,rfl,hj⟩:=flat_at hall hq
     have hi':i<n.toNat:=by have:=(List.getElem?_eq_some_iff.1 g1).1;simpa using this
     rw [List.getElem?_replicate,if_pos hi'] at g1;cases g1
     obtain ⟨u,u1,u2⟩:=hcr.2 j x g2
     have hlt:i * ei.size+j<n.toNat * ei.size:=by have:=wh (k:=ei.size) hi';omega
     refine ⟨u,?_,u2⟩
     have hmod:(i * ei.size+j) % z.cells.size=j:=by rw [hzs,Nat.add_comm,Nat.add_mul_mod_self_right];exact Nat.mod_eq_of_lt hj
     have hjz:j<z.cells.size:=by omega
     have e3:(madeCells z.cells (n.toNat * ei.size)).toList[i * ei.size+j]? = some (z.cells[(i * ei.size+j) % z.cells.size]!):=by simp [madeCells,hlt]
     rw [e3,hmod]
     have e4:z.cells[j]? = some u:=by simpa using u1
     simp [getElem!_def,e4]
 · cases he
end
end Go.Am
end
section
namespace Go.Am
section
variable {K:Ctx} {w:World} {M:Nat} {P:Program}
theorem eqCs_append : ∀ (k1 k2:List LK) (cs ds:List AV) {r:Bool},xE (k1++k2) cs ds=some r→∃ r1 r2,xE k1 (cs.take k1.length) (ds.take k1.length)=some r1∧xE k2 (cs.drop k1.length) (ds.drop k1.length)=some r2∧r=(r1 && r2)
 | [],k2,cs,ds,r,h=>⟨true,r,rfl,h,rfl⟩
 | k :: k1,k2,cs,ds,r,h=>by
  rw [List.cons_append] at h
  unfold xE at h
  split at h
  · contradiction
  · rename_i ks ka a cs' kb b ds' e
    cases e
    split at h
    · rename_i hk
      obtain ⟨r0,h0,rfl⟩:=Option.map_eq_some_iff.1 h
      obtain ⟨r1,r2,e1,e2,rfl⟩:=eqCs_append k1 k2 cs' ds' h0
      exact ⟨(a == b) && r1,r2,by simp [xE,hk,e1],by simpa using e2,by rw [Bool.and_assoc]⟩
    · cases h
  · rename_i ks a cs' b ds' e
    cases e
    obtain ⟨r0,h0,rfl⟩:=Option.map_eq_some_iff.1 h
    obtain ⟨r1,r2,e1,e2,rfl⟩:=eqCs_append k1 k2 cs' ds' h0
    exact ⟨(a == b) && r1,r2,by simp [xE,e1],by simpa using e2,by rw [Bool.and_assoc]⟩
  · rename_i ks a cs' b ds' e
    cases e
    obtain ⟨r0,h0,rfl⟩:=Option.map_eq_some_iff.1 h
    obtain ⟨r1,r2,e1,e2,rfl⟩:=eqCs_append k1 k2 cs' ds' h0
    exact ⟨(a.toList == b.toList) && r1,r2,by simp [xE,e1],by simpa using e2,by rw [Bool.and_assoc]⟩
  · cases h
theorem eqCs_len : ∀ (ks:List LK) (cs ds:List AV) {r:Bool},xE ks cs ds=some r→ks.length≤cs.length∧ks.length≤ds.length
 | [],_,_,_,_=>⟨Nat.zero_le _,Nat.zero_le _⟩
 | k :: ks,cs,ds,r,h=>by
  unfold xE at h
  split at h
  · contradiction
  · rename_i ks' ka a cs' kb b ds' e
    cases e
    split at h
    · obtain ⟨r0,h0,rfl⟩:=Option.map_eq_some_iff.1 h
      have:=eqCs_len _ _ _ h0
      simp;omega
    · cases h
  · rename_i ks' a cs' b ds' e
    cases e
    obtain ⟨r0,h0,rfl⟩:=Option.map_eq_some_iff.1 h
    have:=eqCs_len _ _ _ h0
    simp;omega
  · rename_i ks' a cs' b ds' e
    cases e
    obtain ⟨r0,h0,rfl⟩:=Option.map_eq_some_iff.1 h
    have:=eqCs_len _ _ _ h0
    simp;omega
  · cases h
theorem eqCs_bool {c e:AV} {r:Bool} (h:xE [.bool] [c] [e]=some r):∃ a b,c=.val (.bool a)∧e=.val (.bool b)∧r=(a == b):=by
 cases c with
 | val v=>cases v with
  | bool a=>cases e with
   | val v'=>cases v' with
    | bool b=>simp [xE] at h;exact ⟨a,b,rfl,rfl,h.symm⟩
    | _=>simp [xE] at h
   | _=>simp [xE] at h
  | _=>simp [xE] at h
 | _=>simp [xE] at h
theorem eqCs_str {c e:AV} {r:Bool} (h:xE [.str] [c] [e]=some r):∃ a b,c=.val (.string a)∧e=.val (.string b)∧r=(a.toList == b.toList):=by
 cases c with
 | val v=>cases v with
  | string a=>cases e with
   | val v'=>cases v' with
    | string b=>simp only [xE,Option.map_some,Bool.and_true,Option.some.injEq] at h;exact ⟨a,b,rfl,rfl,h.symm⟩
    | _=>simp [xE] at h
   | _=>simp [xE] at h
  | _=>simp [xE] at h
 | _=>simp [xE] at h
theorem eqCs_int {c e:AV} {r:Bool} (h:xE [.int] [c] [e]=some r):∃ k a b,c=.val (.int k a)∧e=.val (.int k b)∧r=(a == b):=by
 cases c with
 | val v=>cases v with
  | int k a=>cases e with
   | val v'=>cases v' with
    | int k' b =>
     simp only [xE,Option.map_some,Bool.and_true] at h
     split at h
     · rename_i hk;subst hk;cases h;exact ⟨k,a,b,rfl,rfl,rfl⟩
     · cases h
    | _=>simp [xE] at h
   | _=>simp [xE] at h
  | _=>simp [xE] at h
 | _=>simp [xE] at h
def rx (agg:Bool) (cs:List AV):AV:=if agg then .agg cs else (match cs with | c :: _=>c | []=>.undef)
theorem eq_fields {d:Nat} {g:TypeId→Option (List LK)} (hg:∀ t ks agg cs ds x y r,g t=some ks→vJ P t=some (ks.length,agg)→VRep K M w (rx agg cs) x→VRep K M w (rx agg ds) y→xE ks cs ds=some r→cs.length=ks.length→ds.length=ks.length→(Op.equalIn d t x y).run P w=.ok r w)
 {xs ys:List AV} {vx vy:List Value} (hlx:xs.length=vx.length) (hly:ys.length=vy.length) (hx:∀ (i:Nat) c z,xs[i]? = some c→vx[i]? = some z→VRep K M w c z) (hy:∀ (i:Nat) c z,ys[i]? = some c→vy[i]? = some z→VRep K M w c z) :
 ∀ (fs:List Field) (off:Nat) (ks:List LK) (r:Bool),wt P g off fs=some ks→xE ks (xs.drop off) (ys.drop off)=some r→(∀ f∈fs,∃ dsc,P.underlying f.type=some dsc)→(Op.eqFields d vx.toArray vy.toArray fs).run P w=.ok r w
 | [],off,ks,r,h,he,_=>by
  simp [wt] at h;subst h
  simp [xE] at he;subst he
  simp [Op.eqFields]
 | f :: fs,off,ks,r,h,he,hu=>by
  simp only [wt] at h
  split at h
  · rename_i i k1 hi hk
    split at h
    · rename_i hc
      simp only [Bool.and_eq_true,bne_iff_ne,ne_eq] at hc
      obtain ⟨⟨⟨h1,h2⟩,h3⟩,h4⟩:=hc
      obtain ⟨k2,hk2,rfl⟩:=Option.map_eq_some_iff.1 h
      have e2:=Nat.eq_of_beq_eq_true h2
      have e3:=Nat.eq_of_beq_eq_true h3
      have e4:=Nat.le_of_ble_eq_true h4
      obtain ⟨r1,r2,q1,q2,rfl⟩:=eqCs_append k1 k2 _ _ he
      rw [List.drop_drop,List.drop_drop] at q2
      obtain ⟨dsc,hd⟩:=hu f List.mem_cons_self
      have hsz:vJ P f.type=some (k1.length,xI dsc):=by simp [vJ,hi,hd,e3]
      have hlen:=eqCs_len _ _ _ q1
      simp only [List.length_take,List.length_drop] at hlen
      have tk:∀ (cs:List AV),off+k1.length≤cs.length→vm cs off k1.length (xI dsc)=some (rx (xI dsc) ((cs.drop off).take k1.length)):=by
       intro cs hl
       unfold vm rx
       cases xI dsc with
       | true=>simp [hl]
       | false =>
        cases hcs:cs.drop off with
        | nil=>have:=congrArg List.length hcs;simp at this;omega
        | cons c rest=>
         obtain ⟨m,hm⟩:∃ m,k1.length=m+1:=⟨k1.length - 1,by omega⟩
         simp [hm]
      obtain ⟨vx1,px1,px2⟩:=part_spec (K:=K) (M:=M) hsz hlx hx (tk xs (by omega))
      obtain ⟨vy1,py1,py2⟩:=part_spec (K:=K) (M:=M) hsz hly hy (tk ys (by omega))
      have hq:=hg f.type k1 (xI dsc) _ _ _ _ r1 hk hsz px2 py2 q1 (by simp;omega) (by simp;omega)
      have ih:=eq_fields hg hlx hly hx hy fs (off+k1.length) k2 r2 hk2 q2 (fun f hf=>hu f (List.mem_cons_of_mem _ hf))
      simp only [Op.eqFields,if_pos h1,e2,Sem.run_bind,px1,py1,Result.andThen_ok,hq]
      cases r1<;>simp [ih]
    · cases h
  · cases h
theorem leaves_under : ∀ {n:Nat} {t:TypeId} {ks:List LK},uc P n t=some ks→∃ d,P.underlying t=some d
 | 0,t,ks,h=>by cases h
 | n+1,t,ks,h=>by
  unfold uc at h
  cases hu:P.underlying t with
  | none=>rw [hu] at h;cases h
  | some d=>exact ⟨d,rfl⟩
theorem fieldsLeaves_under {n:Nat}:∀ {fs:List Field} {off:Nat} {ks:List LK},wt P (uc P n) off fs=some ks→∀ f∈fs,∃ dsc,P.underlying f.type=some dsc
 | [],_,_,_,f,hf=>by cases hf
 | f :: fs,off,ks,h,f',hf=>by
  simp only [wt] at h
  split at h
  · rename_i i k1 hi hk
    split at h
    · obtain ⟨k2,hk2,rfl⟩:=Option.map_eq_some_iff.1 h
      rcases List.mem_cons.1 hf with rfl | hf
      · exact leaves_under hk
      · exact fieldsLeaves_under hk2 f' hf
    · cases h
  · cases h
theorem eq_leaves : ∀ (n j:Nat) (t:TypeId) (ks:List LK) (agg:Bool) (cs ds:List AV) (x y:Value) (r:Bool),uc P n t=some ks→vJ P t=some (ks.length,agg)→VRep K M w (rx agg cs) x→VRep K M w (rx agg ds) y→xE ks cs ds=some r→cs.length=ks.length→ds.length=ks.length →
 (Op.equalIn (n+j) t x y).run P w=.ok r w
 | 0,j,t,ks,agg,cs,ds,x,y,r,h,_,_,_,_,_,_=>by cases h
 | n+1,j,t,ks,agg,cs,ds,x,y,r,h,hsz,hx,hy,he,hc,hd=>by
  obtain ⟨i,dsc,hi,hu,_,hag⟩:=szAgg_some hsz
  rw [show n+1+j=(n+j)+1 by omega]
  unfold uc at h
  rw [hu] at h
  have one:∀ (k:LK),ks=[k]→agg=false→∃ c e,cs=[c]∧ds=[e]∧VRep K M w c x∧VRep K M w e y:=by
   intro k hk ha
   subst hk ha
   match cs,ds,hc,hd with
   | [c],[e],_,_=>exact ⟨c,e,rfl,rfl,hx,hy⟩
  split at h
  · rename_i e;cases e;cases h
    obtain ⟨c,e,rfl,rfl,g1,g2⟩:=one _ rfl (by rw [← hag];rfl)
    obtain ⟨a,b,rfl,rfl,rfl⟩:=eqCs_bool he
    obtain rfl:=zM g1
    obtain rfl:=zM g2
    exact run_equalIn_bool' w _ t _ _ hu
  · rename_i kk e;cases e;cases h
    obtain ⟨c,e,rfl,rfl,g1,g2⟩:=one _ rfl (by rw [← hag];rfl)
    obtain ⟨k,a,b,rfl,rfl,rfl⟩:=eqCs_int he
    obtain rfl:=zM g1
    obtain rfl:=zM g2
    exact run_equalIn_int w _ t _ _ _ _ hu
  · rename_i e;cases e;cases h
    obtain ⟨c,e,rfl,rfl,g1,g2⟩:=one _ rfl (by rw [← hag];rfl)
    obtain ⟨a,b,rfl,rfl,rfl⟩:=eqCs_str he
    obtain rfl:=zM g1
    obtain rfl:=zM g2
    exact run_equalIn_string w _ t _ _ hu
  · rename_i fs e
    cases e
    split at h
    · cases h
    · rename_i hst
      have hst:P.stoodInHeld t=false:=by simpa using hst
      have ha:agg=true:=by rw [← hag];rfl
      subst ha
      obtain ⟨vx,rfl,hlx,hx'⟩:=tJ hx
      obtain ⟨vy,rfl,hly,hy'⟩:=tJ hy
      have hfo:P.fieldsOf t=fs:=by simp [Program.fieldsOf,hu]
      rw [run_equalIn_struct w (n+j) t _ _ (by rw [hfo];exact hu) hst,hfo]
      exact eq_fields (fun t ks agg cs ds x y r h1 h2 h3 h4 h5 h6 h7=>eq_leaves n j t ks agg cs ds x y r h1 h2 h3 h4 h5 h6 h7) hlx hly hx' hy' fs.toList 0 ks r h (by simpa using he) (fieldsLeaves_under h)
  · cases h
theorem eqLeaves_spec {t:TypeId} {ks:List LK} (h:th P t=some ks):P.eqGuardType P.depth t=false∧uc P 20 t=some ks:=by
 unfold th at h
 split at h
 · cases h
 · rename_i hg
   split at h
   · split at h
     · cases h;exact ⟨by simpa using hg,by assumption⟩
     · cases h
   · cases h
theorem eq_top {t:TypeId} {fs:Array Field} {ks:List LK} {cs ds:List AV} {x y:Value} {r:Bool} (hu:P.underlying t=some (.struct fs)) (h:uc P 20 t=some ks) (hx:VRep K M w (.agg cs) x) (hy:VRep K M w (.agg ds) y) (he:xE ks cs ds=some r) :
 ∃ vx vy:Array Value,x=.agg vx∧y=.agg vy∧(Op.equalIn 10000 t x y).run P w=.ok r w:=by
 unfold uc at h
 rw [hu] at h
 dsimp only at h
 split at h
 · cases h
 · rename_i hst
   have hst:P.stoodInHeld t=false:=by simpa using hst
   obtain ⟨vx,rfl,hlx,hx'⟩:=tJ hx
   obtain ⟨vy,rfl,hly,hy'⟩:=tJ hy
   have hfo:P.fieldsOf t=fs:=by simp [Program.fieldsOf,hu]
   refine ⟨_,_,rfl,rfl,?_⟩
   rw [run_equalIn_struct w 9999 t _ _ (by rw [hfo];exact hu) hst,hfo]
   exact eq_fields (d:=9999) (fun t ks agg cs ds x y r h1 h2 h3 h4 h5 h6 h7=>eq_leaves 19 9980 t ks agg cs ds x y r h1 h2 h3 h4 h5 h6 h7) hlx hly hx' hy' fs.toList 0 ks r h (by simpa using he) (fieldsLeaves_under h)
end
section
variable {E:Env} {K:Ctx} {w:World} {H:zz}
theorem ok_eqst (h:HRep E K w H) {neq:Bool} {t:TypeId} {fs:Array Field} {ks:List LK} (hu:E.P.underlying t=some (.struct fs)) (hk:th E.P t=some ks) {x y:AV} {yx yy:Value} (hx:VRep K H.length w x yx) (hy:VRep K H.length w y yy) {xo yo:Operand} {F:AFr} {ox oy:Opd} (hox:ox.ev E.G F=x) (hoy:oy.ev E.G F=y)
 {v:AV} {H':zz} (he:zr E.G (.eqst neq ks ox oy) F H=some (true,v,H')):yM E K H w (do let v ← (do eqGuard (if neq then .neq else .eql) t xo yo yx yy;binOp (if neq then .neq else .eql) t yx yy);pure (.value v)) v H':=by
 simp only [zr,hox,hoy,ans] at he
 split at he
 · split at he
   · rename_i cs ds b hb
     cases he
     obtain ⟨hg,hl⟩:=eqLeaves_spec hk
     obtain ⟨vx,vy,rfl,rfl,hr⟩:=eq_top hu hl hx hy hb
     refine zi h (zW ?_) xD
     simp only [Sem.run_bind,run_eqGuard_agg w _ t xo yo vx vy hg,Result.andThen_ok]
     cases neq
     · simp [run_eql_struct,hr]
     · simp [run_neq_struct,hr]
   · cases he
 · cases he
end
end Go.Am
end
section
namespace Go.Am
section
variable {E:Env} {K:Ctx} {w:World} {H:zz} {M:Nat}
theorem ok_eqb' (h:HRep E K w H) {neq:Bool} {t:TypeId} (hu:E.P.underlying t=some .bool) {x y:AV} {yx yy:Value} (hx:VRep K H.length w x yx) (hy:VRep K H.length w y yy) {xo yo:Operand} {F:AFr} {ox oy:Opd} (hox:ox.ev E.G F=x) (hoy:oy.ev E.G F=y)
 {v:AV} {H':zz} (he:zr E.G (.eqb neq ox oy) F H=some (true,v,H')):yM E K H w (do let v ← (do eqGuard (if neq then .neq else .eql) t xo yo yx yy;binOp (if neq then .neq else .eql) t yx yy);pure (.value v)) v H':=by
 simp only [zr,hox,hoy,ans] at he
 split at he
 · cases he
   obtain rfl:=zM hx
   obtain rfl:=zM hy
   exact ok_eqb h hu
 · cases he
set_option maxHeartbeats 1000000 in
theorem evalOp1_sound (h:HRep E K w H) {F:AFr} {ρ:Operand→Value} (hρ:Ops E K H w F ρ) {o:Oper} {v:AV} {H':zz} (he:zr E.G (za E.P o.op) F H=some (true,v,H')):yM E K H w (execOp ρ o) v H':=by
  have nope:∀ {p:Prop},zr E.G .bad F H=some (true,v,H')→p:=fun h=>by simp [zr] at h
  cases ho:o.op with
  | move x =>
    rw [ho] at he;simp only [za,zr,ans] at he;cases he
    exact zi h (by simp [execOp,ho]) (hρ x)
  | assign x =>
    rw [ho] at he;simp only [za,zr,ans] at he;cases he
    exact zi h (by simp [execOp,ho]) (hρ x)
  | pick c a b =>
    rw [ho] at he;simp only [za,zr,ans] at he
    split at he
    · rename_i t e
      cases he
      have hc:=hρ c
      rw [e] at hc
      have hc:=zM hc
      cases t
      · exact zi h (y:=ρ b) (by simp [execOp,ho,hc,asBool]) (hρ b)
      · exact zi h (y:=ρ a) (by simp [execOp,ho,hc,asBool]) (hρ a)
    · cases he
  | alloc t =>
    rw [ho] at he;simp only [za] at he
    split at he
    · rename_i z hz
      split at he
      · simp [zr] at he
      simp only [zr,Opd.ev] at he
      simp only [Option.some.injEq,Prod.mk.injEq] at he
      obtain ⟨h1,rfl,rfl⟩:=he
      cases hi:E.P.info? t with
      | none=>rw [hi] at hz;cases hz
      | some i =>
        rw [hi] at hz
        exact ok_box h t (ww z) h1 (by simp [execOp,ho,Instr.alloc,uw hi hz,newVar,newRow])
    · exact nope he
  | box t x =>
    rw [ho] at he;simp only [za] at he
    split at he
    · simp [zr] at he
    · simp only [zr,Option.some.injEq,Prod.mk.injEq] at he
      obtain ⟨h1,rfl,rfl⟩:=he
      exact ok_box h t (hρ x) h1 (by simp [execOp,ho,Instr.box,newVar,newRow])
  | build t ps =>
    rw [ho] at he;simp only [za] at he
    split at he
    · rename_i i fs hi hu
      split at he
      · rename_i z hz
        split at he
        · rename_i parts hp
          split at he
          · rename_i hall
            simp only [zr] at he
            split at he
            · rename_i cs hf
              simp only [Option.some.injEq,Prod.mk.injEq] at he
              obtain ⟨h1,rfl,rfl⟩:=he
              cases hz0:i.zero with
              | none=>rw [hz0] at hz;cases hz
              | some z0 =>
                rw [hz0] at hz
                have:=ok_buildStruct h hρ hi hu (fun f hf=>by
                  have:=List.all_eq_true.1 hall f hf
                  exact Option.isSome_iff_exists.1 this) hz0 (by simpa using hz) hp hf h1
                simpa only [execOp,ho] using this
            · cases he
          · exact nope he
        · exact nope he
      · exact nope he
    · exact nope he
  | buildSlice t len ps =>
    rw [ho] at he;simp only [za] at he
    split at he
    · rename_i e hu
      split at he
      · rename_i ei hi
        split at he
        · rename_i hc
          simp only [Bool.and_eq_true] at hc
          obtain ⟨⟨⟨⟨c1,c2⟩,c3⟩,c4⟩,c5⟩:=hc
          unfold vA at c5
          cases hz:ei.zero with
          | none=>rw [hz] at c5;cases c5
          | some z =>
            rw [hz] at c5
            simp only [zr] at he
            simp only [Option.some.injEq,Prod.mk.injEq] at he
            obtain ⟨h1,rfl,rfl⟩:=he
            have hlen:ps.size=len:=Nat.eq_of_beq_eq_true c1
            have hall:∀ p∈ps.toList,((opd p.2).ev E.G F).cells.length=ei.size∧((opd p.2).ev E.G F).cells.all AV.one=true:=fun p hp=>by
              have:=List.all_eq_true.1 h1 (opd p.2) (List.mem_map.2 ⟨p,hp,rfl⟩)
              simp only [Bool.and_eq_true] at this
              exact ⟨Nat.eq_of_beq_eq_true this.1,this.2⟩
            have:=ok_bslice h hρ hu hi hz (Nat.eq_of_beq_eq_true c5) hlen c2 (Nat.le_of_ble_eq_true c3) (Nat.le_of_ble_eq_true c4) hall
            have hm:(List.map (fun p=>opd p.2) ps.toList).map (fun x=>Opd.ev E.G F x)=ps.toList.map fun p=>(opd p.2).ev E.G F:=by simp
            rw [hm]
            simp only [List.length_map,Array.length_toList,hlen]
            simpa only [execOp,ho] using this
        · exact nope he
      · exact nope he
    · exact nope he
  | load t x =>
    rw [ho] at he;simp only [za] at he
    split at he
    · rename_i k a ht
      have:=ok_ld h ht (hρ x) rfl he
      simpa only [execOp,ho] using this
    · exact nope he
  | store t x y =>
    rw [ho] at he;simp only [za] at he
    split at he
    · rename_i i hi
      have:=ok_st h hi (hρ x) (hρ y) rfl rfl he
      simpa only [execOp,ho] using this
    · exact nope he
  | nilCheck x =>
    rw [ho] at he;simp only [za] at he
    exact ok_nilchk h (hρ x) rfl ho rfl he
  | binOp op t x y ty =>
    rw [ho] at he;simp only [za] at he
    split at he
    all_goals first
      | exact nope he
      | (split at he<;>(first | exact nope he | (have:=ok_eqst h (neq:=false) ‹_› ‹_› (hρ x) (hρ y) (xo:=x) (yo:=y) rfl rfl he;simpa only [execOp,ho,if_true,Bool.false_eq_true,if_false] using this) | (have:=ok_eqst h (neq:=true) ‹_› ‹_› (hρ x) (hρ y) (xo:=x) (yo:=y) rfl rfl he;simpa only [execOp,ho,if_true,Bool.false_eq_true,if_false] using this)))
      | (have:=ok_eqb' h (neq:=false) ‹_› (hρ x) (hρ y) (xo:=x) (yo:=y) rfl rfl he;simpa only [execOp,ho,if_true,Bool.false_eq_true,if_false] using this)
      | (have:=ok_eqb' h (neq:=true) ‹_› (hρ x) (hρ y) (xo:=x) (yo:=y) rfl rfl he;simpa only [execOp,ho,if_true,Bool.false_eq_true,if_false] using this)
      | (simp [zr] at he;done)
      | (simp only [zr] at he
         have:=ok_bin h (t:=t) (ox:=x) (oy:=y) (hρ x) (hρ y) he
         simpa only [execOp,ho] using this)
  | unOp op t x =>
    rw [ho] at he;simp only [za] at he
    have:=ok_un h (hρ x) rfl he
    simpa only [execOp,ho] using this
  | convert s d x =>
    rw [ho] at he;simp only [za] at he
    split at he
    · rename_i k0 k hs hd
      simp only [zr,ans] at he
      split at he
      · rename_i k1 a ea
        cases he
        have hx:=hρ x;rw [ea] at hx
        refine zi h (y:=.int k (k.wrap a)) ?_ xz
        simp [execOp,ho,zM hx,convert,zY hs,zY hd,Conv.intToInt]
      · cases he
    · rename_i k0 hs hd
      simp only [zr,ans] at he
      split at he
      · rename_i k1 a ea
        cases he
        have hx:=hρ x;rw [ea] at hx
        refine zi h (y:=.string (Utf8.encode a)) ?_ (.val _ fun _ h=>by cases h)
        simp [execOp,ho,zM hx,convert,zY hs,zY hd,Conv.intToString]
      · cases he
    · rename_i e hs hd
      split at he
      · rename_i he8
        simp only [zr,ans] at he
        split at he
        · rename_i str ea
          cases he
          have hx:=hρ x;rw [ea] at hx
          obtain ⟨hd1,ev1⟩:=h.drew
          have hrun:=run_bytes_of_string w s d e str hs hd he8
          have hcap:=grownCap_ge w str.size 0 e
          have hlen:(byteA str).length=str.size:=by rw [byteA,List.length_map];rfl
          have hone:∀ x∈byteA str,x.cells.length=1:=fun x hx=>by
            obtain ⟨b,_,rfl⟩:=List.mem_map.1 hx;rfl
          have hfl:∀ l:List UInt8,flat (l.map fun b=>AV.val (.int .u8 (b.toNat:Int)))=l.map fun b=>AV.val (.int .u8 (b.toNat:Int)):=fun l=>by
            induction l with
            | nil=>rfl
            | cons b l ih=>rw [List.map_cons,flat,List.flatMap_cons];rw [flat] at ih;rw [ih];rfl
          refine ok_newFzW (n:=str.size) hd1 ev1 e _ hone hlen.symm ⟨str.data.toList.map fun b=>Value.int .u8 b.toNat,⟨by rw [byteA,hfl];simp,fun j c hj=>?_⟩,fun j z hj=>?_⟩ hcap (by simp [execOp,ho,zM hx,hrun];rfl)
          · rw [byteA,hfl,List.getElem?_map] at hj
            obtain ⟨b,hb,rfl⟩:=Option.map_eq_some_iff.1 hj
            exact ⟨.int .u8 b.toNat,by rw [List.getElem?_map,hb];rfl,.val _ (fun _ h=>by cases h)⟩
          · have hjl:=(List.getElem?_eq_some_iff.1 hj).1
            rw [List.length_map] at hjl
            rw [bytesRow,Array.getElem?_append_left (by simpa using hjl),Array.getElem?_map]
            rw [List.getElem?_map] at hj
            simpa using hj
        · cases he
      · exact nope he
    · exact nope he
  | makeInterface t x =>
    rw [ho] at he;simp only [za] at he
    split at he
    · exact nope he
    · rename_i d hd hu
      simp only [zr,ans] at he;cases he
      refine zi h (y:=.iface t (ρ x)) ?_ (.iface t _ _ (hρ x))
      simp only [execOp,ho]
      refine zW ?_
      simp only [Instr.makeInterface,Sem.run_bind,zY hu,Result.andThen_ok]
      rfl
    · exact nope he
  | makeFunc fn first caps =>
    rw [ho] at he
    cases fn with
    | func f =>
      simp only [za] at he
      split at he
      · rename_i hf
        simp only [zr,ans] at he;cases he
        have hf:first = #[]:=by simpa using hf
        subst hf
        refine zi h (y:=.func (.func f) #[] (caps.map ρ)) (by simp [execOp,ho,Instr.makeFunc]) ?_
        have:=VRep.fn (K:=K) (M:=H.length) (w:=w) f ((caps.toList.map opd).map (·.ev E.G F)) (caps.toList.map ρ) (by simp) (by
          have:=tY hρ (xs:=caps.toList)
          intro i c y hc hy
          exact this i c y (by simpa using hc) hy)
        have e:(caps.toList.map ρ).toArray=caps.map ρ:=Array.ext' (by simp)
        rw [e] at this;exact this
      · exact nope he
    | _=>exact nope he
  | makeSlice t l c =>
    rw [ho] at he;simp only [za] at he
    split at he
    · rename_i e hu
      split at he
      · rename_i ei hi
        split at he
        · rename_i z hz
          split at he
          · rename_i hc
            simp only [Bool.and_eq_true] at hc
            have:=ok_mkslice h hu hi hz (Nat.eq_of_beq_eq_true hc.1) (Nat.le_of_ble_eq_true hc.2) (hρ l) (hρ c) rfl rfl he
            simpa only [execOp,ho] using this
          · exact nope he
        · exact nope he
      · exact nope he
    · exact nope he
  | slice t x lo hi mx =>
    rw [ho] at he;simp only [za] at he
    split at he
    · rename_i e hu
      split at he
      · rename_i ei hi
        have:=ok_slc h hu hi hρ he
        simpa only [execOp,ho,Option.map_none] using this
      · simp [zr] at he
      · exact nope he
    · rename_i hu
      split at he
      · have:=ok_slcs h hu hρ he
        simpa only [execOp,ho,Option.map_none] using this
      · exact nope he
    · exact nope he
  | fieldAddr s x f =>
    rw [ho] at he;simp only [za] at he
    split at he
    · rename_i fs hu
      split at he
      · rename_i fd hf
        split at he
        · rename_i i hi
          split at he
          · exact nope he
          · rename_i h0
            have:=ok_fa h hu hf hi (fun e=>h0 (by rw [e];rfl)) (hρ x) rfl he
            simpa only [execOp,ho] using this
        · exact nope he
      · exact nope he
    · exact nope he
  | field t x f =>
    rw [ho] at he;simp only [za] at he
    split at he
    · rename_i fs hu
      split at he
      · rename_i fd hf
        split at he
        · rename_i k a ht
          have:=ok_fld h hu hf ht (hρ x) rfl he
          simpa only [execOp,ho] using this
        · exact nope he
      · exact nope he
    · exact nope he
  | indexAddr t x i =>
    rw [ho] at he;simp only [za] at he
    split at he
    · rename_i e hu
      split at he
      · rename_i ei hi
        have:=ok_ia h hu hi (hρ x) (hρ i) rfl rfl he
        simpa only [execOp,ho] using this
      · exact nope he
    · rename_i n e hu
      split at he
      · rename_i ei hi
        have:=ok_iaA h hu hi (hρ x) (hρ i) rfl rfl he
        simpa only [execOp,ho] using this
      · exact nope he
    · exact nope he
  | index t x i =>
    rw [ho] at he;simp only [za] at he
    split at he
    · rename_i n e hu
      split at he
      · rename_i k a ht
        have:=ok_ixA h hu ht (hρ x) (hρ i) rfl rfl he
        simpa only [execOp,ho] using this
      · exact nope he
    · rename_i hu
      have:=ok_ixS h hu (hρ x) (hρ i) rfl rfl he
      simpa only [execOp,ho] using this
    · exact nope he
  | extract x i =>
    rw [ho] at he;simp only [za] at he
    have:=ok_ext h (hρ x) rfl he
    simpa only [execOp,ho] using this
  | call c =>
    rw [ho] at he;simp only [za] at he
    obtain ⟨callee,args,argTypes⟩:=c
    dsimp only at he
    split at he
    · simp [zr] at he
    · simp [zr] at he
    · exact nope he
    · rename_i b
      have hex:execOp ρ o=(do let d ← resolve ρ { callee:=.builtin b,args,argTypes } o.type;invoke d.target d.args):=by simp only [execOp,ho]
      have harr:∀ l,args.toList=l→args=l.toArray:=fun l h=>by rw [← h]
      have harr':∀ l,argTypes.toList=l→argTypes=l.toArray:=fun l h=>by rw [← h]
      split at he
      · rename_i x t ha ht
        rw [harr _ ha,harr' _ ht] at hex
        split at he
        · rename_i e hu
          have:=ok_len (ty:=o.type) h hu (hρ x) rfl he
          rw [hex];simpa [resolve,invoke,builtin] using this
        · rename_i hu
          have:=ok_lens (ty:=o.type) h hu (hρ x) rfl he
          rw [hex];simpa [resolve,invoke,builtin] using this
        · simp [zr] at he
        · exact nope he
      · split at he
        · simp [zr] at he
        · exact nope he
      · rename_i s x t u ha ht
        rw [harr _ ha,harr' _ ht] at hex
        split at he
        · rename_i e e2 hu hu2
          split at he
          · rename_i ei hi
            split at he
            · rename_i hc
              simp only [Bool.and_eq_true] at hc
              have hz:=hc.1
              unfold vA at hz
              split at hz
              · rename_i z hz0
                have:=ok_app (ty:=o.type) h hu hu2 (fun k hk=>by cases hk) hi hz0 (Nat.eq_of_beq_eq_true hz) (hρ s) (hρ x) rfl rfl he
                rw [hex];simpa [resolve,invoke,builtin] using this
              · cases hz
            · exact nope he
          · exact nope he
        · split at he
          · split at he
            · split at he
              · simp [zr] at he
              · exact nope he
            · exact nope he
          · exact nope he
        · (repeat' split at he)<;>first | exact nope he | (simp [zr] at he;done)
        · exact nope he
      · split at he
        · split at he
          · simp [zr] at he
          · exact nope he
        · exact nope he
      · rename_i xs ts
        rcases hxs:args.toList with _ | ⟨a,_ | ⟨b,_ | ⟨c,r⟩⟩⟩
        · rw [hxs] at he;simp [zr] at he
        · rw [hxs] at he;simp [zr] at he
        · rw [hxs] at he
          rw [harr _ hxs] at hex
          have:=ok_mx (ts:=argTypes) (ty:=o.type) h (hρ a) (hρ b) rfl rfl he
          rw [hex];simpa [resolve,invoke,builtin] using this
        · rw [hxs] at he;simp [zr] at he
      · rename_i xs ts
        rcases hxs:args.toList with _ | ⟨a,_ | ⟨b,_ | ⟨c,r⟩⟩⟩
        · rw [hxs] at he;simp [zr] at he
        · rw [hxs] at he;simp [zr] at he
        · rw [hxs] at he
          rw [harr _ hxs] at hex
          have:=ok_mn (ts:=argTypes) (ty:=o.type) h (hρ a) (hρ b) rfl rfl he
          rw [hex];simpa [resolve,invoke,builtin] using this
        · rw [hxs] at he;simp [zr] at he
      · (repeat' split at he)<;>first | exact nope he | (simp [zr] at he;done)
      · exact nope he
  | makeMap t r =>
    rw [ho] at he
    cases r with
    | none=>simp [za,zr] at he
    | some r=>exact nope he
  | lookup t m x ok =>
    rw [ho] at he;simp only [za] at he
    (repeat' split at he)<;>first | exact nope he | (simp [zr] at he;done)
  | mapUpdate t m x y =>
    rw [ho] at he;simp only [za] at he
    (repeat' split at he)<;>first | exact nope he | (simp [zr] at he;done)
  | _=>rw [ho] at he;exact nope he
end
end Go.Am
end
section
namespace Go.Am
def elems2 (H:zz) (k:Nat):AV→Option (List AV)
 | .slc b k' lo len _=>if Nat.beq k k' then (xj H b k).map fun es=>(es.drop lo).take len else none
 | x=>uB H k x
def v7 (H:zz) (k:Nat):AV→Bool
 | .slc b _ lo len _=>match xj H b k with
  | some es=>decide (lo+len≤es.length)
  | none=>false
 | x=>wY H k x
def ownOf : AV→Option (Nat × Nat × Nat × Nat)
 | .sl b k lo len | .slc b k lo len _=>some (b,k,lo,len)
 | _=>none
def rp : AV→Option Bool
 | .val (.slice none _ _)=>some true
 | .slc .. | .sl _ _ _ (_+1) | .isl _ (_ :: _)=>some false
 | _=>none
def wK (k:Nat) (es:List AV):Bool:=es.all fun e=>Nat.beq e.cells.length k && e.cells.all AV.one
def putE (es:List AV) (lo m:Nat) (new:List AV):List AV:=es.take lo++new.take m++es.drop (lo+m)
def s8 (x y:AV) (H:zz):Ans :=
 match x,y with
 | .val (.int k a),.val (.int _ b)=>some (decide (0≤b),.val (.int k (a.fdiv (2 ^ min b.toNat k.bits))),H)
 | _,_=>none
def keyEq (st:Bool):AV→AV→Option Bool
 | .val (.string a),.val (.string b)=>if st then some (a == b) else none
 | .val (.int k a),.val (.int k' b)=>if st=false∧k=k' then some (a == b) else none
 | _,_=>none
def mIs (st:Bool) (x:AV) (p:AV × AV):Bool:=keyEq st x p.1 == some true
def mOkL (st:Bool) (es:List (AV × AV)) (x:AV):Bool:=es.all fun p=>(keyEq st x p.1).isSome
def mHasL (st:Bool) (es:List (AV × AV)) (x:AV):Bool:=es.any (mIs st x)
def mGetL (st:Bool):List (AV × AV)→AV→AV→AV
 | [],_,z=>z
 | p :: r,x,z=>if mIs st x p then p.2 else mGetL st r x z
def mPutL (st:Bool):List (AV × AV)→AV→AV→List (AV × AV)
 | [],x,v=>[(x,v)]
 | p :: r,x,v=>if mIs st x p then (x,v) :: r else p :: mPutL st r x v
def sR (H:zz):AV→Option (Nat × List (AV × AV))
 | .amap b=>match H[b]? with
  | some (.amap es)=>some (b,es)
  | _=>none
 | _=>none
def rX (st:Bool):AV→Bool
 | .val (.string _)=>st
 | .val (.int _ _)=>!st
 | _=>false
section
variable (G:Nat→AV)
def zj (o:AOp) (F:AFr) (H:zz):Ans :=
 match o with
 | .cap x=>match x.ev G F with
  | .slc _ _ _ _ c=>ans (.val (.int .i64 c)) H
  | .val (.slice none _ c)=>ans (.val (.int .i64 c)) H
  | _=>none
 | .len x=>match x.ev G F with
  | .slc _ _ _ len _=>ans (.val (.int .i64 len)) H
  | _=>none
 | .eqnil neq x y=>match y.ev G F,rp (x.ev G F) with
  | .val (.slice none 0 0),some b=>ans (.val (.bool (if neq then !b else b))) H
  | _,_=>none
 | .bin .shr x y=>s8 (x.ev G F) (y.ev G F) H
 | .mkmap=>ans (.amap H.length) (H++[.amap []])
 | .bnew t=>ans (.ptr H.length 0) (H++[.cells [.bsh t H.length false,.val (.slice none 0 0)]])
 | .appb e bytes s x=>match x.ev G F with
  | .val (.string str)=>match s.ev G F with
   | .val (.slice none 0 0)=>some (decide (0<(byteA str).length) && decide ((byteA str).length * (bytes+1)≤35184372088832),.bsl e H.length (byteA str).length,H++[.arr 1 (byteA str)])
   | .bsl e' b n=>match xj H b 1 with
    | some es=>some (decide (e'=e) && decide (n=es.length) && decide ((n+(byteA str).length) * (bytes+1)≤35184372088832),.bsl e H.length (n+(byteA str).length),H.set b .dead++[.arr 1 (es++byteA str)])
    | none=>none
   | _=>none
  | _=>none
 | .mlook st zero m x ok=>match sR H (m.ev G F) with
  | some (_,es)=>some (rX st (x.ev G F) && mOkL st es (x.ev G F),(if ok then .tup [mGetL st es (x.ev G F) zero,.val (.bool (mHasL st es (x.ev G F)))] else mGetL st es (x.ev G F) zero),H)
  | none=>none
 | .mput st m x v=>match sR H (m.ev G F) with
  | some (b,es)=>some (rX st (x.ev G F) && mOkL st es (x.ev G F),.undef,H.set b (.amap (mPutL st es (x.ev G F) (v.ev G F))))
  | none=>none
 | .slc k x lo hi=>match zE G F lo,zE G F hi,x.ev G F with
  | some l,some h,.slc b k' lo' len cap=>if Nat.beq k k' then
   some (decide (0≤l.getD 0∧l.getD 0≤h.getD len∧h.getD len≤(cap:Int)∧l.getD 0<(cap:Int)),.slc b k (lo'+(l.getD 0).toNat) ((h.getD len).toNat - (l.getD 0).toNat) (cap - (l.getD 0).toNat),H) else none
  | _,_,_=>none
 | .slc3 k x lo hi m=>match zE G F lo,zE G F (some hi),zE G F (some m),x.ev G F with
  | some l,some (some h),some (some mm),.sl b k' lo' len=>if Nat.beq k k' then
   some (decide (l.getD 0=0∧0≤h∧h≤mm∧mm≤(len:Int)∧0<(len:Int)),.slc b k lo' h.toNat mm.toNat,H) else none
  | some l,some (some h),some (some mm),.val (.slice none 0 0)=>some (decide (l.getD 0=0∧h=0∧mm=0),.val (.slice none 0 0),H)
  | some l,some (some h),some (some mm),.isl k' es=>if Nat.beq k k' then
   some (decide (l.getD 0=0∧0≤h∧h≤mm∧mm≤(es.length:Int)),.isl k ((es.take h.toNat).drop (0:Int).toNat),H) else none
  | _,_,_,_=>none
 | .ia k x i=>match x.ev G F,i.ev G F with
  | .slc b k' lo len _,.val (.int _ n)=>if Nat.beq k k' then some (decide (0≤n∧n<(len:Int)),.eptr b k (lo+n.toNat) 0,H) else none
  | _,_=>none
 | .copy k d s=>match elems2 H k (s.ev G F),ownOf (d.ev G F) with
  | some new,some (b,k',lo,len)=>match xj H b k with
   | some es=>some (Nat.beq k k' && v7 H k (s.ev G F) && decide (lo+len≤es.length) && wK k (new.take (min new.length len)),
    .val (.int .i64 (min new.length len:Nat)),H.set b (.arr k (putE es lo (min new.length len) new)))
   | none=>none
  | _,_=>none
 | .appz k bytes zero s n=>match n.ev G F,s.ev G F with
  | .val (.int .i64 m),.val (.slice none 0 0)=>some (decide (0<m∧m.toNat * (bytes+1)≤35184372088832) && zero.cells.all AV.one && Nat.beq zero.cells.length k,.sl H.length k 0 m.toNat,H++[.arr k (List.replicate m.toNat zero)])
  | .val (.int .i64 m),.slc b k' lo len cap=>match xj H b k with
   | some es=>some (Nat.beq k k' && decide (lo+len≤es.length) && wK k ((es.drop lo).take len) && decide (0<m∧(cap:Int)<len+m∧(len+m.toNat) * (bytes+1)≤35184372088832) && zero.cells.all AV.one && Nat.beq zero.cells.length k,
    .sl H.length k 0 (len+m.toNat),H++[.arr k ((es.drop lo).take len++List.replicate m.toNat zero)])
   | none=>none
  | _,_=>none
 | _=>none
end
section
variable {E:Env} {K:Ctx} {w:World} {H:zz} {M:Nat}
theorem src2_spec (h:HRep E K w H) {x:AV} {y:Value} (hx:VRep K H.length w x y) {k:Nat} {new:List AV} (he:elems2 H k x=some new) (hok:v7 H k x=true):SrcOk E K H.length w k new y:=by
 cases x with
 | slc b k' lo len cap =>
  simp only [elems2] at he
  split at he
  · rename_i hkk
    have hkk:=Nat.eq_of_beq_eq_true hkk
    subst hkk
    cases ha:xj H b k with
    | none=>rw [ha] at he;cases he
    | some es =>
     rw [ha] at he
     simp only [v7,ha,decide_eq_true_eq] at hok
     simp only [Option.map_some,Option.some.injEq] at he
     have hlen:new.length=len:=by rw [← he];simp;omega
     cases hx with
     | slc _ _ _ _ _ blk base hM hg hle hs =>
      obtain ⟨c,ty,hheap,hkk,hl⟩:=h.arr (xr ha) hg
      have hget:∀ (i:Nat) e,new[i]? = some e→es[lo+i]? = some e:=by
       intro i e hi
       rw [← he,List.getElem?_take] at hi
       split at hi
       · rwa [List.getElem?_drop] at hi
       · cases hi
      rw [← hlen]
      refine srcOk_full blk (base+lo * k) cap (vd fun i e hi=>hkk _ e (hget i e hi)) (fun i e j c h1 h2=>?_)
      obtain ⟨y,e1,e2⟩:=hl _ e (hget i e h1) j c h2
      refine ⟨y,?_,e2⟩
      have ea:base+lo * k+(i * k+j)=base+(lo+i) * k+j:=by rw [Nat.add_mul];omega
      rw [ea];simp [World.cell?,hheap,e1]
  · cases he
 | _=>exact src_spec h hx he hok
theorem run_equal_nil {P:Program} {t e:TypeId} (hu:P.underlying t=some (.slice e)) (a:Option Addr) (n c:Nat) (w:World):(Op.equal t (.slice a n c) (.slice none 0 0)).run P w=.ok a.isNone w:=by
 have h:∀ d,(Op.equalIn (d+1) t (.slice a n c) (.slice none 0 0)).run P w=.ok a.isNone w:=fun d=>by cases a<;>simp [Op.equalIn,zY hu]
 exact h 9999
theorem ok_eqnil (h:HRep E K w H) {neq:Bool} {t e:TypeId} (hu:E.P.underlying t=some (.slice e)) {xo yo:Operand} (a:Option Addr) (n c:Nat) :
 yM E K H w (do let v ← (do eqGuard (if neq then .neq else .eql) t xo yo (.slice a n c) (.slice none 0 0);binOp (if neq then .neq else .eql) t (.slice a n c) (.slice none 0 0));pure (.value v))
  (.val (.bool (if neq then !a.isNone else a.isNone))) H:=by
 have hg:(eqGuard (if neq then .neq else .eql) t xo yo (.slice a n c) (.slice none 0 0)).run E.P w=.ok () w:=by unfold eqGuard;cases neq<;>simp
 refine zi h (zW ?_) xD
 simp only [Sem.run_bind,hg,Result.andThen_ok]
 cases neq<;>simp [binOp,run_equal_nil hu]
theorem nilOf_spec {x:AV} {y:Value} (hx:VRep K M w x y) {b:Bool} (hn:rp x=some b):∃ a n c,y=.slice a n c∧a.isNone=b:=by
 unfold rp at hn
 split at hn
 · cases hn;cases hx with | val=>exact ⟨_,_,_,rfl,rfl⟩
 · cases hn;cases hx with | slc=>exact ⟨_,_,_,rfl,rfl⟩
 · cases hn;cases hx with | sl=>exact ⟨_,_,_,rfl,rfl⟩
 · cases hn;cases hx with | isl=>exact ⟨_,_,_,rfl,rfl⟩
 · cases hn
theorem ok_cap (h:HRep E K w H) {t ty e:TypeId} (hu:E.P.underlying t=some (.slice e)) {x:AV} {y:Value} (hx:VRep K H.length w x y) {F:AFr} {ox:Opd} (hox:ox.ev E.G F=x) {v:AV} {H':zz}
 (he:zj E.G (.cap ox) F H=some (true,v,H')):yM E K H w (do let v ← Builtin.cap_ #[t] ty #[y];pure (.value v)) v H':=by
 have sl:∀ b n c,(Builtin.cap_ #[t] ty #[.slice b n c]).run E.P w=.ok (.int .i64 c) w:=fun b n c=>by
  simp [Builtin.cap_,zY hu,goInt]
 simp only [zj,hox,ans] at he
 split at he
 · cases he
   cases hx with
   | slc=>exact zi h (zW (sl _ _ _)) xz
 · cases he
   cases hx with
   | val=>exact zi h (zW (sl _ _ _)) xz
 · cases he
theorem ok_len2 (h:HRep E K w H) {t ty e:TypeId} (hu:E.P.underlying t=some (.slice e)) {x:AV} {y:Value} (hx:VRep K H.length w x y) {F:AFr} {ox:Opd} (hox:ox.ev E.G F=x) {v:AV} {H':zz}
 (he:zj E.G (.len ox) F H=some (true,v,H')):yM E K H w (do let v ← Builtin.len_ #[t] ty #[y];pure (.value v)) v H':=by
 have sl:∀ b n c,(Builtin.len_ #[t] ty #[.slice b n c]).run E.P w=.ok (.int .i64 n) w:=fun b n c=>by
  simp [Builtin.len_,zY hu,goInt]
 simp only [zj,hox,ans] at he
 split at he
 · cases he
   cases hx with
   | slc=>exact zi h (zW (sl _ _ _)) xz
 · cases he
theorem ok_shr (h:HRep E K w H) {t:TypeId} {xo yo:Operand} {x y:AV} {yx yy:Value} (hx:VRep K H.length w x yx) (hy:VRep K H.length w y yy) {v:AV} {H':zz}
 (he:s8 x y H=some (true,v,H')):yM E K H w (do let v ← (do eqGuard .shr t xo yo yx yy;binOp .shr t yx yy);pure (.value v)) v H':=by
 unfold s8 at he
 split at he
 · rename_i k a k' b
   simp only [Option.some.injEq,Prod.mk.injEq,decide_eq_true_eq] at he
   obtain ⟨h0,rfl,rfl⟩:=he
   obtain rfl:=zM hx
   obtain rfl:=zM hy
   refine zi h (zW (y:=.int k (a.fdiv (2 ^ min b.toNat k.bits))) ?_) xz
   have hg:(eqGuard .shr t xo yo (.int k a) (.int k' b)).run E.P w=.ok () w:=by unfold eqGuard;simp
   simp only [Sem.run_bind,hg,Result.andThen_ok]
   have:¬ (b<0):=by omega
   simp [binOp,Op.shift,this]
 · cases he
theorem ok_slc2 (h:HRep E K w H) {t e:TypeId} {ei:TypeInfo} (hu:E.P.underlying t=some (.slice e)) (hi:E.P.info? e=some ei) {F:AFr} {ρ:Operand→Value} (hρ:Ops E K H w F ρ) {ox:Operand} {lo hh:Option Operand} {v:AV} {H':zz}
 (he:zj E.G (.slc ei.size (opd ox) (lo.map opd) (hh.map opd)) F H=some (true,v,H')) :
 yM E K H w (do let v ← Instr.sliceAt t (ρ ox) (lo.map ρ) (hh.map ρ) none;pure (.value v)) v H':=by
 simp only [zj] at he
 split at he
 · rename_i l hi' b k' lo' len cap h1 h2 h3
   split at he
   · rename_i hkk
     have hkk:=Nat.eq_of_beq_eq_true hkk
     subst hkk
     simp only [Option.some.injEq,Prod.mk.injEq,decide_eq_true_eq] at he
     obtain ⟨⟨g0,g1,g2,g3⟩,rfl,rfl⟩:=he
     have hx:=hρ ox
     rw [h3] at hx
     generalize hyv:ρ ox=y at hx ⊢
     cases hx with
     | slc _ _ _ _ _ blk base hM hg hle hs =>
      have hr:=vf w hu hi (some ⟨blk,base+lo' * ei.size,none⟩) len cap (yQ hρ h1) (yQ hρ h2) g0 g1 g2
      refine zi h (zW hr) ?_
      have hlt:(l.getD 0).toNat<cap:=by omega
      rw [if_neg (by omega),Option.map_some,xZ]
      have ea:base+lo' * ei.size+(l.getD 0).toNat * ei.size=base+(lo'+(l.getD 0).toNat) * ei.size:=by rw [Nat.add_mul];omega
      rw [ea]
      refine .slc _ _ _ _ _ blk base hM hg (by omega) ?_
      rwa [show lo'+(l.getD 0).toNat+(cap - (l.getD 0).toNat)=lo'+cap by omega]
   · cases he
 · cases he
theorem ok_slc3 (h:HRep E K w H) {t e:TypeId} {ei:TypeInfo} (hu:E.P.underlying t=some (.slice e)) (hi:E.P.info? e=some ei) {F:AFr} {ρ:Operand→Value} (hρ:Ops E K H w F ρ) {ox:Operand} {lo:Option Operand} {hh mx:Operand} {v:AV} {H':zz}
 (he:zj E.G (.slc3 ei.size (opd ox) (lo.map opd) (opd hh) (opd mx)) F H=some (true,v,H')) :
 yM E K H w (do let v ← Instr.sliceAt t (ρ ox) (lo.map ρ) (some (ρ hh)) (some (ρ mx));pure (.value v)) v H':=by
 have bd:∀ {x:Operand} {n:Int},zE E.G F (some (opd x))=some (some n)→∃ k,ρ x=.int k n:=by
  intro x n hx
  have:=yQ hρ (x:=some x) hx
  simp only [Option.map_some,wF] at this
  cases hy:ρ x<;>rw [hy] at this<;>first | exact this.elim | (subst this;exact ⟨_,rfl⟩)
 have hb:∀ (w:World) (k:IntKind) (i:Int) (y:Nat) (c:BoundsCode),0≤i→i≤y→(Instr.sliceBound (.int k i) y c).run E.P w=.ok i.toNat w:=fun w k i y c a b=>by simp [Instr.sliceBound,asIntOf,a,b]
 have main:∀ (a:Option Addr) (len cap:Nat) (l:Option Int) (g mm:Int),zE E.G F (lo.map opd)=some l→zE E.G F (some (opd hh))=some (some g)→zE E.G F (some (opd mx))=some (some mm)→l.getD 0=0→0≤g→g≤mm→mm≤(cap:Int) →
  (Instr.sliceAt t (.slice a len cap) (lo.map ρ) (some (ρ hh)) (some (ρ mx))).run E.P w=.ok (.slice (if mm.toNat=0 then a else a.map (·.add (0 * ei.size))) (g.toNat - 0) (mm.toNat - 0)) w:=by
  intro a len cap l g mm hl hg hm h0 h1 h2 h3
  obtain ⟨k1,e1⟩:=bd hg
  obtain ⟨k2,e2⟩:=bd hm
  have hl:=yQ hρ hl
  have e4:((mm.toNat:Nat):Int)=mm:=Int.toNat_of_nonneg (by omega)
  have e3:((g.toNat:Nat):Int)=g:=Int.toNat_of_nonneg h1
  rw [e1,e2]
  cases lo with
  | none=>simp [Instr.sliceAt,Instr.slice,Instr.sliceBounds,zY hu,hb _ _ _ _ _ (show 0≤mm by omega) h3,hb _ _ _ _ _ h1 (show g≤((mm.toNat:Nat):Int) by omega),xy hi]
  | some o =>
   cases l with
   | none=>simp [wF] at hl
   | some n =>
    simp only [Option.map_some,wF] at hl
    cases hy:ρ o<;>rw [hy] at hl<;>first | exact hl.elim | skip
    subst hl
    simp at h0
    subst h0
    simp [Instr.sliceAt,Instr.slice,Instr.sliceBounds,zY hu,hy,hb _ _ _ _ _ (show 0≤mm by omega) h3,hb _ _ _ _ _ h1 (show g≤((mm.toNat:Nat):Int) by omega),hb _ _ (0:Int) g.toNat _ (by omega) (by omega),xy hi]
 have hx:=hρ ox
 simp only [zj] at he
 split at he
 · rename_i l g mm b k' lo' len hl hg hm hev
   split at he
   · rename_i hkk
     have hkk:=Nat.eq_of_beq_eq_true hkk
     subst hkk
     simp only [Option.some.injEq,Prod.mk.injEq,decide_eq_true_eq] at he
     obtain ⟨⟨h0,h1,h2,h3,h4⟩,rfl,rfl⟩:=he
     rw [hev] at hx
     generalize hyv:ρ ox=y at hx ⊢
     cases hx with
     | slnil=>simp at h4
     | sl0=>simp at h4
     | sl _ _ _ _ cap blk base hM hg2 hle hs =>
      refine zi h (zW (main _ _ _ _ _ _ hl hg hm h0 h1 h2 (by omega))) ?_
      have:(if mm.toNat=0 then some (⟨blk,base+lo' * ei.size,none⟩:Addr) else (some (⟨blk,base+lo' * ei.size,none⟩:Addr)).map (·.add (0 * ei.size)))=some ⟨blk,base+lo' * ei.size,none⟩:=by split<;>simp [xZ]
      rw [this]
      refine .slc _ _ _ _ _ blk base hM hg2 (by omega) ?_
      obtain ⟨c2,t2,f2,g1,g2⟩:=hs
      exact ⟨c2,t2,f2,g1,Nat.le_trans (Nat.add_le_add_left (Nat.mul_le_mul_right _ (by omega)) _) g2⟩
   · cases he
 · rename_i l g mm hl hg hm hev
   simp only [Option.some.injEq,Prod.mk.injEq,decide_eq_true_eq] at he
   obtain ⟨⟨h0,rfl,rfl⟩,rfl,rfl⟩:=he
   rw [hev] at hx
   rw [zM hx]
   refine zi h (zW (main none 0 0 _ _ _ hl hg hm h0 (by omega) (by omega) (by omega))) ?_
   exact .val _ (fun _ h=>by cases h)
 · rename_i l g mm k' es hl hg hm hev
   split at he
   · rename_i hkk
     have hkk:=Nat.eq_of_beq_eq_true hkk
     subst hkk
     simp only [Option.some.injEq,Prod.mk.injEq,decide_eq_true_eq] at he
     obtain ⟨⟨h0,h1,h2,h3⟩,rfl,rfl⟩:=he
     rw [hev] at hx
     rw [Int.toNat_zero,List.drop_zero]
     generalize hyv:ρ ox=y at hx ⊢
     cases hx with
     | islnil =>
      have e1:g.toNat=0:=by simp at h3;omega
      have e2:mm.toNat=0:=by simp at h3;omega
      refine zi h (zW (main none 0 0 _ _ _ hl hg hm h0 h1 h2 (by simpa using h3))) ?_
      rw [e1,e2,List.take_nil]
      exact .islnil _
     | isl _ _ f a cap hle hI hk2 hc hh2 =>
      refine zi h (zW (main (some a) es.length cap _ _ _ hl hg hm h0 h1 h2 (by omega))) ?_
      have ha:(if mm.toNat=0 then some a else (some a).map (·.add (0 * ei.size)))=some a:=by
       split
       · rfl
       · have hne:es≠[]:=by intro e;rw [e] at h3;simp at h3;omega
         obtain ⟨hIb,hsp⟩:=hI hne
         obtain ⟨ab,ao,asp⟩:=a
         dsimp only at hsp;subst hsp
         simp [xZ]
      rw [ha]
      have hlen:(es.take g.toNat).length=g.toNat:=by rw [List.length_take];omega
      have hget:∀ (i:Nat) e,(es.take g.toNat)[i]? = some e→es[i]? = some e:=by
       intro i e hi
       rw [List.getElem?_take] at hi
       split at hi
       · exact hi
       · cases hi
      have:=VRep.isl (K:=K) (M:=H.length) (w:=w) ei.size (es.take g.toNat) f a mm.toNat (by rw [hlen];omega)
       (fun hne=>hI (by intro e;rw [e,List.take_nil] at hne;exact hne rfl)) (fun i e h=>hk2 i e (hget i e h)) (fun i e j c h1 h2=>hc i e j c (hget i e h1) h2) (fun i e j c h1 h2=>hh2 i e j c (hget i e h1) h2)
      rw [hlen] at this
      exact this
   · cases he
 · cases he
theorem ok_ia2 (h:HRep E K w H) {t e:TypeId} {ei:TypeInfo} (hu:E.P.underlying t=some (.slice e)) (hi:E.P.info? e=some ei) {x ix:AV} {y iy:Value} (hx:VRep K H.length w x y) (hix:VRep K H.length w ix iy)
 {F:AFr} {ox oi:Opd} (hox:ox.ev E.G F=x) (hoi:oi.ev E.G F=ix) {v:AV} {H':zz} (he:zj E.G (.ia ei.size ox oi) F H=some (true,v,H')) :
 yM E K H w (do let v ← Instr.indexAt t y iy;pure (.value v)) v H':=by
 simp only [zj,hox,hoi] at he
 split at he
 · rename_i b k' lo len cap kk n
   split at he
   · rename_i hkk
     have hkk:=Nat.eq_of_beq_eq_true hkk
     subst hkk
     simp only [Option.some.injEq,Prod.mk.injEq,decide_eq_true_eq] at he
     obtain ⟨⟨g0,g1⟩,rfl,rfl⟩:=he
     obtain rfl:=zM hix
     -- the same slice, its capacity forgotten
     cases hx with
     | slc _ _ _ _ _ blk base hM hg hle hs =>
      have hx':VRep K H.length w (.sl b ei.size lo len) (.slice (some ⟨blk,base+lo * ei.size,none⟩) len cap):=.sl _ _ _ _ cap blk base hM hg hle hs
      refine ok_ia h hu hi hx' (ix:=.val (.int kk n)) xz (F:=F) (ox:=.c (.sl b ei.size lo len)) (oi:=.c (.val (.int kk n))) rfl rfl ?_
      simp only [zr,Opd.ev,Nat.beq_refl,if_true]
      simp only [Option.some.injEq,Prod.mk.injEq,decide_eq_true_eq,and_true]
      exact ⟨g0,g1⟩
   · cases he
 · cases he
end
end Go.Am
end
section
namespace Go.Am
section
variable {E:Env} {K:Ctx} {w:World} {H:zz} {M:Nat}
theorem fitB_spec {k:Nat} {es:List AV} (h:wK k es=true):∀ e∈es,e.cells.length=k∧e.cells.all AV.one=true:=by
 intro e he
 have:=List.all_eq_true.1 h e he
 simp only [Bool.and_eq_true] at this
 exact ⟨Nat.eq_of_beq_eq_true this.1,this.2⟩
theorem putE_get (es new:List AV) (lo m:Nat) (hm:m≤new.length) (hl:lo+m≤es.length) (i:Nat) :
 (putE es lo m new)[i]? = if i<lo then es[i]? else if i<lo+m then new[i - lo]? else es[i]?:=by
 have:=xd es (new.take m) lo i (by simp;omega)
 rw [List.length_take,Nat.min_eq_left hm] at this
 unfold putE
 rw [this]
 by_cases h1:i<lo
 · rw [if_pos h1,if_pos h1]
 · rw [if_neg h1,if_neg h1]
   by_cases h2:i<lo+m
   · rw [if_pos h2,if_pos h2,List.getElem?_take,if_pos (by omega)]
   · rw [if_neg h2,if_neg h2]
theorem ok_copy (h:HRep E K w H) {t u ty e:TypeId} {ei:TypeInfo} (hu:E.P.underlying t=some (.slice e)) (hi:E.P.info? e=some ei) {d s:AV} {yd ys:Value} (hd:VRep K H.length w d yd) (hs:VRep K H.length w s ys)
 {F:AFr} {od os:Opd} (hod:od.ev E.G F=d) (hos:os.ev E.G F=s) {v:AV} {H':zz} (he:zj E.G (.copy ei.size od os) F H=some (true,v,H')) :
 yM E K H w (do let v ← Builtin.copy_ #[t,u] ty #[yd,ys];pure (.value v)) v H':=by
 simp only [zj,hod,hos] at he
 split at he
 · rename_i new b k' lo len hne hown
   cases ha:xj H b ei.size with
   | none=>rw [ha] at he;cases he
   | some es =>
    rw [ha] at he
    simp only [Option.some.injEq,Prod.mk.injEq,Bool.and_eq_true,decide_eq_true_eq] at he
    obtain ⟨⟨⟨⟨hkk,hok⟩,hle⟩,hfit⟩,rfl,rfl⟩:=he
    have hkk:=Nat.eq_of_beq_eq_true hkk
    subst hkk
    obtain ⟨sb,scap,news,rfl,hnr,hnk,hfn⟩:=src2_spec h hs hne hok
    have hnl:news.length=new.length * ei.size:=by rw [hnr.1,xb hnk]
    have hfn':=fun w' hw=>hfn (min new.length len) (Nat.min_le_left _ _) w' hw
    have hbH:=xr ha
    have hbl:b<H.length:=(List.getElem?_eq_some_iff.1 hbH).1
    -- nothing goes over
    have zero:∀ (a:Option Addr),yd=.slice a 0 0→len=0 →
     yM E K H w (do let v ← Builtin.copy_ #[t,u] ty #[yd,.slice sb new.length scap];pure (.value v)) (.val (.int .i64 (min new.length len:Nat))) (H.set b (.arr ei.size (putE es lo (min new.length len) new))):=by
     rintro a rfl rfl
     have e0:putE es lo (min new.length 0) new=es:=by simp [putE]
     rw [e0]
     have e1:H.set b (.arr ei.size es)=H:=by
      apply List.ext_getElem?
      intro i
      rw [List.getElem?_set]
      by_cases hib:b=i
      · subst hib;rw [if_pos rfl,if_pos hbl];exact hbH.symm
      · rw [if_neg hib]
     rw [e1]
     have hf0:=hfn' w (fun _=>rfl)
     simp at hf0
     refine zi h (y:=goInt (0:Nat)) (zW ?_) (by simp [goInt];exact xz)
     cases a<;>simp [Builtin.copy_,zY hu,xy hi,run_lenOf,hf0,storeCells]
    have full:∀ (cap blk base:Nat),yd=.slice (some ⟨blk,base+lo * ei.size,none⟩) len cap→K.γ b=some (blk,base)→len≤cap→sizeAt w blk (base+(lo+cap) * ei.size) →
     yM E K H w (do let v ← Builtin.copy_ #[t,u] ty #[yd,.slice sb new.length scap];pure (.value v)) (.val (.int .i64 (min new.length len:Nat))) (H.set b (.arr ei.size (putE es lo (min new.length len) new))):=by
     rintro cap blk base rfl hg hlc hsz
     obtain ⟨c,cty,hheap,hck,hl⟩:=h.arr hbH hg
     have hcs:base+(lo+cap) * ei.size≤c.size:=by
      obtain ⟨c2,t2,f2,g1,g2⟩:=hsz
      rw [hheap] at g1;cases g1;exact g2
     generalize hmm:min new.length len=m at hfn' hfit ⊢
     have hm1:m≤new.length:=by omega
     have hm2:m≤len:=by omega
     have hzl:(news.take (m * ei.size)).length=m * ei.size:=by
      rw [List.length_take,hnl];exact Nat.min_eq_left (Nat.mul_le_mul_right _ hm1)
     have hnr':yW K H.length w (flat (new.take m)) (news.take (m * ei.size)):=by
      rw [flat_take hnk]
      refine ⟨by rw [List.length_take,List.length_take,hnr.1],fun j x hj=>?_⟩
      rw [List.getElem?_take] at hj
      split at hj
      · rename_i hjl
        obtain ⟨z,e1,e2⟩:=hnr.2 j x hj
        exact ⟨z,by rw [List.getElem?_take,if_pos hjl];exact e1,e2⟩
      · cases hj
     have hnk':∀ e∈new.take m,e.cells.length=ei.size:=fun e he=>hnk e (List.mem_of_mem_take he)
     have h1n:=srcOk_one hnk' (fun e he=>(fitB_spec hfit e he).2) hnr'
     have hfitc:base+lo * ei.size+(news.take (m * ei.size)).length≤c.size:=by
      refine Nat.le_trans ?_ hcs
      rw [hzl,Nat.add_assoc,← Nat.add_mul]
      exact Nat.add_le_add_left (Nat.mul_le_mul_right _ (by omega)) _
     have hst:=run_storeCells_at E.P blk (base+lo * ei.size) cty (news.take (m * ei.size)) 0 c w hheap (by simpa using hfitc) h1n
     simp only [Nat.add_zero] at hst
     have hrun:(Builtin.copy_ #[t,u] ty #[.slice (some ⟨blk,base+lo * ei.size,none⟩) len cap,.slice sb new.length scap]).run E.P w =
      .ok (goInt m) (w.setRow blk (c.toList.take (base+lo * ei.size)++news.take (m * ei.size)++c.toList.drop (base+lo * ei.size+(news.take (m * ei.size)).length)).toArray):=by
      have hmn:Nat.min new.length len=m:=hmm
      simp [Builtin.copy_,zY hu,xy hi,run_lenOf,hmn,hfn' w (fun _=>rfl)]
      rw [show (List.take (m * ei.size) news)=news.take (m * ei.size) from rfl,hst]
      simp
     have ht:=touch_setRow w blk c _ cty (0,0) hheap (vw c (news.take (m * ei.size)) (base+lo * ei.size) (by simpa using hfitc))
     obtain ⟨h2,ev2⟩:=h.touch (o':=.arr ei.size (putE es lo m new)) hbH trivial hg ht trivial (fun mv=>by
      refine .arr _ _ _ _ _ _ (setRow_heap w blk c _ cty (0,0) hheap) (fun i e he=>?_) (fun i e he=>?_)
      · rw [putE_get es new lo m hm1 (by omega)] at he
        split at he
        · exact hck i e he
        · split at he
          · exact hnk e (List.mem_of_getElem? he)
          · exact hck i e he
      · rw [putE_get es new lo m hm1 (by omega)] at he
        split at he
        · rename_i hlt
          refine tg mv (hl i e he) (.inl ?_) (by simpa using hfitc)
          rw [hck i e he,Nat.add_assoc]
          exact Nat.add_le_add_left (wh hlt) _
        · rename_i hge
          split at he
          · rename_i hlt
            intro j x hj
            have hjk:j<ei.size:=by rw [← hnk e (List.mem_of_getElem? he)];exact (List.getElem?_eq_some_iff.1 hj).1
            have he':(new.take m)[i - lo]? = some e:=by rw [List.getElem?_take,if_pos (by omega)];exact he
            obtain ⟨y,e1,e2⟩:=hnr'.2 ((i - lo) * ei.size+j) x (by rw [uq hnk' he' hjk];exact hj)
            refine ⟨y,?_,mv.rep e2⟩
            have hlt2:(i - lo) * ei.size+j<(news.take (m * ei.size)).length:=(List.getElem?_eq_some_iff.1 e1).1
            have hq:base+i * ei.size+j=base+lo * ei.size+((i - lo) * ei.size+j):=by
             rw [← Nat.add_assoc,Nat.add_assoc base (lo * ei.size),← Nat.add_mul,show lo+(i - lo)=i by omega]
            rw [hq,List.getElem?_toArray,xd _ _ _ _ (by simpa using hfitc),if_neg (by omega),if_pos (by omega)]
            rw [show base+lo * ei.size+((i - lo) * ei.size+j) - (base+lo * ei.size)=(i - lo) * ei.size+j by omega]
            exact e1
          · rename_i hge2
            refine tg mv (hl i e he) (.inr ?_) (by simpa using hfitc)
            rw [hzl,Nat.add_assoc,← Nat.add_mul]
            exact Nat.add_le_add_left (Nat.mul_le_mul_right _ (by omega)) _)
     refine ⟨_,_,_,.inl (zW hrun),?_,h2,ev2⟩
     exact xz
    cases d with
    | sl b' k2 lo' len' =>
     simp only [ownOf,Option.some.injEq,Prod.mk.injEq] at hown
     obtain ⟨rfl,rfl,rfl,rfl⟩:=hown
     cases hd with
     | slnil=>exact zero none rfl rfl
     | sl0 _ _ _ a=>exact zero (some a) rfl rfl
     | sl _ _ _ _ cap blk base hM hg hle hs=>exact full cap blk base rfl hg hle hs
    | slc b' k2 lo' len' cap =>
     simp only [ownOf,Option.some.injEq,Prod.mk.injEq] at hown
     obtain ⟨rfl,rfl,rfl,rfl⟩:=hown
     cases hd with
     | slc _ _ _ _ _ blk base hM hg hle hs=>exact full cap blk base rfl hg hle hs
    | _=>cases hown
 · cases he
end
end Go.Am
end
section
namespace Go.Am
section
variable {E:Env} {K:Ctx} {w:World} {H:zz} {M:Nat}
def vh (st:Bool) (d:TypeDesc):Prop:=match d with
 | .string=>st=true
 | .int _=>st=false
 | _=>False
theorem keyNow {st:Bool} {d:TypeDesc} (hd:vh st d) {a b:AV} {x y:Value} {r:Bool} (h:keyEq st a b=some r) (ha:VRep K M w a x) (hb:VRep K M w b y):Instr.sameNow d x y=some r:=by
 unfold keyEq at h
 split at h
 · cases ha;cases hb
   split at h
   · rename_i hs;subst hs
     cases d<;>simp [vh] at hd
     simpa [Instr.sameNow] using h
   · cases h
 · cases ha;cases hb
   split at h
   · rename_i hs;obtain ⟨rfl,rfl⟩:=hs
     cases d<;>simp [vh] at hd
     simpa [Instr.sameNow] using h
   · cases h
 · cases h
def EntRep (K:Ctx) (M:Nat) (w:World):List (AV × AV)→List MapEntry→Prop
 | [],[]=>True
 | p :: es,e :: ents=>VRep K M w p.1 e.key∧VRep K M w p.2 e.val∧EntRep K M w es ents
 | _,_=>False
theorem entRep_of : ∀ {es:List (AV × AV)} {ents:List MapEntry},ents.length=es.length→(∀ (i:Nat) x y,es[i]? = some x→ents[i]? = some y→VRep K M w x.1 y.key∧VRep K M w x.2 y.val)→EntRep K M w es ents
 | [],[],_,_=>trivial
 | [],_ :: _,h,_=>by simp at h
 | _ :: _,[],h,_=>by simp at h
 | p :: es,e :: ents,h,hh=>⟨(hh 0 p e rfl rfl).1,(hh 0 p e rfl rfl).2,entRep_of (by simpa using h) fun i x y hx hy=>hh (i+1) x y (by simpa using hx) (by simpa using hy)⟩
theorem entRep_to : ∀ {es:List (AV × AV)} {ents:List MapEntry},EntRep K M w es ents→ents.length=es.length∧∀ (i:Nat) x y,es[i]? = some x→ents[i]? = some y→VRep K M w x.1 y.key∧VRep K M w x.2 y.val
 | [],[],_=>⟨rfl,fun i x y hx _=>by simp at hx⟩
 | [],_ :: _,h=>h.elim
 | _ :: _,[],h=>h.elim
 | p :: es,e :: ents,h=>by
  obtain ⟨h1,h2,h3⟩:=h
  obtain ⟨i1,i2⟩:=entRep_to h3
  refine ⟨by simp [i1],fun i x y hx hy=>?_⟩
  cases i with
  | zero=>simp at hx hy;subst hx hy;exact ⟨h1,h2⟩
  | succ i=>exact i2 i x y (by simpa using hx) (by simpa using hy)
theorem findNow_miss {st:Bool} {d:TypeDesc} (hd:vh st d) {a:AV} {x:Value} (ha:VRep K M w a x):∀ {es:List (AV × AV)} {ents:List MapEntry} (i:Nat),EntRep K M w es ents→mOkL st es a=true→mHasL st es a=false→Instr.findNow d x ents i=some none
 | [],[],i,_,_,_=>rfl
 | [],_ :: _,_,h,_,_=>h.elim
 | _ :: _,[],_,h,_,_=>h.elim
 | p :: es,e :: ents,i,h,ho,hn=>by
  obtain ⟨h1,h2,h3⟩:=h
  simp only [mOkL,List.all_cons,Bool.and_eq_true] at ho
  simp only [mHasL,List.any_cons,Bool.or_eq_false_iff] at hn
  obtain ⟨r,hr⟩:=Option.isSome_iff_exists.1 ho.1
  have hrf:r=false:=by
   have:=hn.1
   simp only [mIs,hr] at this
   cases r<;>simp_all
  subst hrf
  rw [Instr.findNow,keyNow hd hr ha h1]
  exact findNow_miss hd ha (i+1) h3 ho.2 hn.2
theorem findNow_hit {st:Bool} {d:TypeDesc} (hd:vh st d) {a v z:AV} {x y:Value} (ha:VRep K M w a x) (hv:VRep K M w v y):∀ {es:List (AV × AV)} {ents:List MapEntry} (i:Nat),EntRep K M w es ents→mOkL st es a=true→mHasL st es a=true →
 ∃ j e,ents[j]? = some e∧Instr.findNow d x ents i=some (some (i+j,e.val))∧VRep K M w (mGetL st es a z) e.val∧Instr.sameNow d x e.key=some true∧EntRep K M w (mPutL st es a v) (ents.set j { e with key:=x,val:=y })
 | [],_,_,_,_,hn=>by simp [mHasL] at hn
 | _ :: _,[],_,h,_,_=>h.elim
 | p :: es,e :: ents,i,h,ho,hn=>by
  obtain ⟨h1,h2,h3⟩:=h
  simp only [mOkL,List.all_cons,Bool.and_eq_true] at ho
  obtain ⟨r,hr⟩:=Option.isSome_iff_exists.1 ho.1
  have hk:=keyNow hd hr ha h1
  cases r with
  | true =>
   have hm:mIs st a p=true:=by simp [mIs,hr]
   refine ⟨0,e,rfl,?_,?_,hk,?_⟩
   · rw [Instr.findNow,hk];rfl
   · rw [mGetL,if_pos hm];exact h2
   · rw [mPutL,if_pos hm];exact ⟨ha,hv,h3⟩
  | false =>
   have hm:mIs st a p=false:=by simp [mIs,hr]
   simp only [mHasL,List.any_cons,hm,Bool.false_or] at hn
   obtain ⟨j,e2,g1,g2,g3,g4,g5⟩:=findNow_hit (z:=z) hd ha hv (i+1) h3 ho.2 hn
   refine ⟨j+1,e2,by simpa using g1,?_,?_,g4,?_⟩
   · rw [Instr.findNow,hk];dsimp only;rw [g2];congr 3;omega
   · rw [mGetL,hm];exact g3
   · rw [mPutL,hm];exact ⟨h1,h2,g5⟩
theorem entRep_put {st:Bool} {a v:AV} {x y:Value} {c:Nat} (ha:VRep K M w a x) (hv:VRep K M w v y):∀ {es:List (AV × AV)} {ents:List MapEntry},EntRep K M w es ents→mHasL st es a=false→EntRep K M w (mPutL st es a v) (ents++[{ key:=x,val:=y,born:=c }])
 | [],[],_,_=>⟨ha,hv,trivial⟩
 | [],_ :: _,h,_=>h.elim
 | _ :: _,[],h,_=>h.elim
 | p :: es,e :: ents,h,hn=>by
  obtain ⟨h1,h2,h3⟩:=h
  simp only [mHasL,List.any_cons,Bool.or_eq_false_iff] at hn
  rw [mPutL,if_neg (by rw [hn.1];simp)]
  exact ⟨h1,h2,entRep_put ha hv h3 hn.2⟩
theorem mGet_miss {st:Bool} {a z:AV}:∀ {es:List (AV × AV)},mHasL st es a=false→mGetL st es a z=z
 | [],_=>rfl
 | p :: es,hn=>by
  simp only [mHasL,List.any_cons,Bool.or_eq_false_iff] at hn
  rw [mGetL,if_neg (by rw [hn.1];simp)]
  exact mGet_miss hn.2
theorem run_checkKey {P:Program} {t:TypeId} {d:TypeDesc} {st:Bool} (ht:P.underlying t=some d) (hd:vh st d) (em:Bool) (v:Value) (w:World):(Instr.checkKey em 10000 t v).run P w=.ok () w:=by
 rw [show (10000:Nat)=9999+1 from rfl,Instr.checkKey]
 cases d<;>simp [vh] at hd<;>simp [zY ht]
theorem run_findKey {P:Program} {t:TypeId} {d:TypeDesc} (ht:P.underlying t=some d) {x:Value} {es:List MapEntry} {r:Option (Nat × Value)} (h:Instr.findNow d x es 0=some r) (w:World):(Instr.findKey t x es).run P w=.ok r w:=by
 simp [Instr.findKey,zY ht,h]
theorem mapOf_some {x:AV} {b:Nat} {es:List (AV × AV)} (h:sR H x=some (b,es)):x=.amap b∧H[b]? = some (.amap es):=by
 unfold sR at h
 split at h
 · split at h
   · rename_i hb;simp only [Option.some.injEq,Prod.mk.injEq] at h;obtain ⟨rfl,rfl⟩:=h;exact ⟨rfl,hb⟩
   · cases h
 · cases h
theorem HRep.amap (h:HRep E K w H) {b blk base:Nat} {es:List (AV × AV)} (hb:H[b]? = some (.amap es)) (hg:K.γ b=some (blk,base)) :
 ∃ ents clock,w.heap[blk]? = some (.map ents clock)∧EntRep K H.length w es ents.toList:=by
 have:=h.obj b _ hb
 rw [hg] at this
 cases this with
 | amap _ _ _ ents clock hh hl he=>exact ⟨ents,clock,hh,entRep_of (by simpa using hl) fun i x y hx hy=>he i x y hx (by simpa using hy)⟩
theorem ok_mkmap (h:HRep E K w H) (t:TypeId):yM E K H w (do let v ← Instr.makeMap t none;pure (.value v)) (.amap H.length) (H++[.amap []]):=by
 obtain ⟨h2,ev⟩:=h.push (.map #[] 0) (.amap []) 0 (.amap _ _ _ _ _ (yR w _) rfl (fun i x y hx _=>by simp at hx))
 refine ⟨.map (some w.heap.size),_,_,.inl ?_,.amap H.length w.heap.size 0 (by simp) (Ctx.push_eq _ _ _),h2,ev⟩
 rfl
theorem ok_mlook (h:HRep E K w H) {t k e:TypeId} {kd:TypeDesc} {st:Bool} {ei:TypeInfo} {zv:Value} (ht:E.P.underlying t=some (.map k e)) (hk:E.P.underlying k=some kd) (hd:vh st kd) (hi:E.P.info? e=some ei) (hz:ei.zero=some zv)
 {m x:AV} {ym yx:Value} (hm:VRep K H.length w m ym) (hx:VRep K H.length w x yx) {b:Nat} {es:List (AV × AV)} (hmo:sR H m=some (b,es)) (ho:mOkL st es x=true) (ok:Bool) :
 yM E K H w (do let v ← Instr.lookup t ym yx ok;pure (.value v)) (if ok then .tup [mGetL st es x (ofValue zv),.val (.bool (mHasL st es x))] else mGetL st es x (ofValue zv)) H:=by
 obtain ⟨rfl,hb⟩:=mapOf_some hmo
 cases hm with
 | amap _ blk base hM hg =>
  obtain ⟨ents,clock,hh,hr⟩:=h.amap hb hg
  have hzr:(zeroValue e).run E.P w=.ok zv w:=uw hi hz w
  cases hn:mHasL st es x with
  | false =>
   have hf:=run_findKey (t:=k) hk (findNow_miss hd hx 0 hr ho hn) w
   refine zi h (y:=if ok then .tuple #[zv,.bool false] else zv) ?_ ?_
   · cases ok<;>simp [Instr.lookup,zY ht,MapKept.run_getObj_map hh,run_checkKey hk hd,hf,hzr]
   · rw [mGet_miss hn]
     cases ok with
     | false=>exact ww zv
     | true =>
      refine .tup _ [zv,.bool false] rfl fun i c y hc hy=>?_
      match i,hc,hy with
      | 0,hc,hy=>cases hc;cases hy;exact ww zv
      | 1,hc,hy=>cases hc;cases hy;exact .val _ (fun _=>by simp)
      | i+2,hc,hy=>simp at hc
  | true =>
   obtain ⟨j,e0,g1,g2,g3,g4,g5⟩:=findNow_hit (z:=ofValue zv) (v:=.undef) (y:=.bool true) hd hx (.undef _) 0 hr ho hn
   have hf:=run_findKey (t:=k) hk g2 w
   refine zi h (y:=if ok then .tuple #[e0.val,.bool true] else e0.val) ?_ ?_
   · cases ok<;>simp [Instr.lookup,zY ht,MapKept.run_getObj_map hh,run_checkKey hk hd,hf]
   · cases ok with
     | false=>exact g3
     | true =>
      refine .tup _ [e0.val,.bool true] rfl fun i c y hc hy=>?_
      match i,hc,hy with
      | 0,hc,hy=>cases hc;cases hy;exact g3
      | 1,hc,hy=>cases hc;cases hy;exact .val _ (fun _=>by simp)
      | i+2,hc,hy=>simp at hc
theorem touch_map {w:World} {blk:Nat} {ents ents':Array MapEntry} {clock clock':Nat} (h:w.heap[blk]? = some (.map ents clock)):Touch blk w { w with heap:=w.heap.setIfInBounds blk (.map ents' clock') } where
 other b hb:=by simp [Ne.symm hb]
 size:=by simp
 cells b c0 ty0 fz0 hb:=by
  by_cases e:b=blk
  · subst e;rw [h] at hb;cases hb
  · exact ⟨c0,fz0,by simpa [Array.getElem?_setIfInBounds,Ne.symm e] using hb,rfl⟩
 loops b r hb:=by
  by_cases e:b=blk
  · subst e;rw [h] at hb;cases hb
  · exact ⟨r,by simpa [Array.getElem?_setIfInBounds,Ne.symm e] using hb⟩
 os:=rfl
 out:=rfl
theorem EntRep.mono {w':World} (m:Mv K M w K M w'):∀ {es:List (AV × AV)} {ents:List MapEntry},EntRep K M w es ents→EntRep K M w' es ents
 | [],[],_=>trivial
 | [],_ :: _,h=>h.elim
 | _ :: _,[],h=>h.elim
 | _ :: _,_ :: _,h=>⟨m.rep h.1,m.rep h.2.1,EntRep.mono m h.2.2⟩
theorem bb_eq (a b:ByteArray):(a == b)=(a.data == b.data):=rfl
theorem bb_iff {a b:ByteArray}:(a == b)=true↔a=b:=by rw [bb_eq,beq_iff_eq];exact ⟨fun h=>ByteArray.ext h,fun h=>by rw [h]⟩
theorem sameNow_bits {st:Bool} {d:TypeDesc} (hd:vh st d) {x y:Value} (h:Instr.sameNow d x y=some true):Instr.sameBits 10000 y x=true:=by
  cases d<;>simp [vh] at hd<;>(unfold Instr.sameNow at h;split at h<;>first
    | (cases h;done)
    | (split at h
       · have e:=eq_of_beq (Option.some.inj h);rename_i e2;subst e e2;simp [Instr.sameBits]
       · cases h)
    | (have e:=bb_iff.1 (Option.some.inj h);subst e;simp [Instr.sameBits,bb_iff])
    | (have e:=eq_of_beq (Option.some.inj h);subst e;simp [Instr.sameBits]))
theorem ok_mput (h:HRep E K w H) {t k e:TypeId} {kd:TypeDesc} {st:Bool} (ht:E.P.underlying t=some (.map k e)) (hk:E.P.underlying k=some kd) (hd:vh st kd)
 {m x v:AV} {ym yx yv:Value} (hm:VRep K H.length w m ym) (hx:VRep K H.length w x yx) (hv:VRep K H.length w v yv) {b:Nat} {es:List (AV × AV)} (hmo:sR H m=some (b,es)) (ho:mOkL st es x=true) :
 yM E K H w (do Instr.mapUpdate t ym yx yv;pure .skip) .undef (H.set b (.amap (mPutL st es x v))):=by
 obtain ⟨rfl,hb⟩:=mapOf_some hmo
 cases hm with
 | amap _ blk base hM hg =>
  obtain ⟨ents,clock,hh,hr⟩:=h.amap hb hg
  have done:∀ (ents':Array MapEntry) (clock':Nat),(Instr.mapUpdate t (.map (some blk)) yx yv).run E.P w=.ok () { w with heap:=w.heap.setIfInBounds blk (.map ents' clock') }→EntRep K H.length w (mPutL st es x v) ents'.toList →
   yM E K H w (do Instr.mapUpdate t (.map (some blk)) yx yv;pure .skip) .undef (H.set b (.amap (mPutL st es x v))):=by
   intro ents' clock' hrun hrep
   obtain ⟨h2,ev⟩:=h.touch hb trivial hg (touch_map (ents':=ents') (clock':=clock') hh) (o':=.amap (mPutL st es x v)) trivial (fun mv=>by
    obtain ⟨e1,e2⟩:=entRep_to (EntRep.mono mv hrep)
    refine .amap _ _ _ ents' clock' ?_ (by simpa using e1) fun i p q hp hq=>e2 i p q hp (by simpa using hq)
    have:=(Array.getElem?_eq_some_iff.1 hh).1
    simp [this])
   exact ⟨undef,_,K,.inr ⟨by simp [hrun],rfl⟩,.undef _,h2,ev⟩
  cases hn:mHasL st es x with
  | false =>
   have hf:=run_findKey (t:=k) hk (findNow_miss hd hx 0 hr ho hn) w
   refine done (ents.push { key:=yx,val:=yv,born:=clock }) (clock+1) ?_ ?_
   · simp [Instr.mapUpdate,zY ht,MapKept.run_getObj_map hh,run_checkKey hk hd,hf,MapKept.run_setObj_map _ hh]
   · have:=entRep_put (c:=clock) hx hv hr hn
     simpa using this
  | true =>
   obtain ⟨j,e0,g1,g2,g3,g4,g5⟩:=findNow_hit (z:=.undef) hd hx hv 0 hr ho hn
   have hf:=run_findKey (t:=k) hk g2 w
   have hj:ents[j]? = some e0:=by simpa using g1
   have hjl:=(Array.getElem?_eq_some_iff.1 hj).1
   have hst:(Instr.keyThatStays e0.key yx).run E.P w=.ok yx w:=by simp [Instr.keyThatStays,sameNow_bits hd g4]
   refine done (ents.modify j fun e=>{ e with key:=yx,val:=yv }) clock ?_ ?_
   · simp [Instr.mapUpdate,zY ht,MapKept.run_getObj_map hh,run_checkKey hk hd,hf,hj,hst,MapKept.run_setObj_map _ hh]
   · have e1:(ents.modify j fun e=>{ e with key:=yx,val:=yv }).toList=ents.toList.set j { e0 with key:=yx,val:=yv }:=by
      apply List.ext_getElem?
      intro i
      simp only [Array.getElem?_toList,Array.getElem?_modify,List.getElem?_set]
      by_cases hij:j=i
      · subst hij
        have hjl2:j<ents.toList.length:=by simpa using hjl
        have hje:ents[j]=e0:=(Array.getElem?_eq_some_iff.1 hj).2
        simp [hjl,hje]
      · simp [hij]
     rw [e1];exact g5
theorem bld_rep {M:Nat} {y:Value} (h:VRep K M w (ofValue (.agg #[.pointer none,.slice none 0 0])) y):y=.agg #[.pointer none,.slice none 0 0]:=by
 have e:ofValue (.agg #[.pointer none,.slice none 0 0])=.agg [.val (.pointer none),.val (.slice none 0 0)]:=rfl
 rw [e] at h
 cases h with
 | agg _ ys hl h =>
  match ys,hl with
  | [a,b],_ =>
   have h0:=h 0 _ a rfl rfl
   have h1:=h 1 _ b rfl rfl
   cases h0;cases h1;rfl
theorem ok_bnew (h:HRep E K w H) (t:TypeId) {y:Value} (hy:VRep K H.length w (ofValue (.agg #[.pointer none,.slice none 0 0])) y):yM E K H w (do let v ← Instr.box t y;pure (.value v)) (.ptr H.length 0) (H++[.cells [.bsh t H.length false,.val (.slice none 0 0)]]):=by
 obtain rfl:=bld_rep hy
 obtain ⟨h2,ev⟩:=h.push (.cells #[.pointer none,.slice none 0 0] t) (.cells [.bsh t H.length false,.val (.slice none 0 0)]) 0 (.cells _ _ _ _ _ (yR w _) (fun j c hj=>by
  match j,hj with
  | 0,hj=>cases hj;exact ⟨.pointer none,rfl,.bsh t H.length w.heap.size _ _ (Nat.lt_succ_self _) (Ctx.push_eq _ _ _) (yR w _) rfl⟩
  | 1,hj=>cases hj;exact ⟨.slice none 0 0,rfl,.val _ (fun _=>by simp)⟩
  | j+2,hj=>simp at hj))
 refine ⟨_,_,_,.inl (by simp [Instr.box,newVar,newRow,Value.cells];rfl),?_,h2,ev⟩
 have:=VRep.ptr (K:=K.push H.length (some (w.heap.size,0))) (M:=(H++[AObj.cells [.bsh t H.length false,.val (.slice none 0 0)]]).length) (w:=w.alloc (.cells #[.pointer none,.slice none 0 0] t)) H.length 0 w.heap.size 0 (by simp) (Ctx.push_eq _ _ _)
 simpa using this
theorem byteA_one (s:ByteArray):∀ e∈byteA s,e.cells.length=1∧e.cells.all AV.one=true:=fun e he=>by
 obtain ⟨b,_,rfl⟩:=List.mem_map.1 he
 exact ⟨rfl,rfl⟩
theorem new_bsl (h:HRep E K w H) (C:Array Value) (e:TypeId) {es:List AV} (hk:∀ x∈es,x.cells.length=1) (hC:∃ zs,yW K H.length w (flat es) zs∧∀ (j:Nat) z,zs[j]? = some z→C[j]? = some z) {cap:Nat} (hn:es.length≤cap) (hcap:cap≤C.size) :
 HRep E (K.push H.length (some (w.heap.size,0))) (w.alloc (.cells C e)) (H++[.arr 1 es])∧Ev H.length K H w (K.push H.length (some (w.heap.size,0))) (H++[.arr 1 es]) (w.alloc (.cells C e)) ∧
  VRep (K.push H.length (some (w.heap.size,0))) (H.length+1) (w.alloc (.cells C e)) (.bsl e H.length es.length) (.slice (some ⟨w.heap.size,0,none⟩) es.length cap):=by
 have hm:=sd h (.cells C e) (some (w.heap.size,0)) (H.length+1) (Nat.le_succ _)
 obtain ⟨zs,hr,hzs⟩:=hC
 have hl:vB (K.push H.length (some (w.heap.size,0))) (H.length+1) (w.alloc (.cells C e)) C 0 (flat es):=fun j x hj=>by
  obtain ⟨z,e1,e2⟩:=hr.2 j x hj
  exact ⟨z,by rw [Nat.zero_add];exact hzs j z e1,hm.rep e2⟩
 obtain ⟨h2,ev⟩:=h.push (.cells C e) (.arr 1 es) 0 (.arr _ _ _ _ _ _ (yR w _) (fun i x he=>hk x (List.mem_of_getElem? he)) (lies_flat hk hl))
 exact ⟨h2,ev,.bsl e H.length es.length w.heap.size cap C (0,0) (Nat.lt_succ_self _) (Ctx.push_eq _ _ _) (yR w _) hn hcap⟩
theorem ok_appb (h:HRep E K w H) {t u ty e:TypeId} {ei:TypeInfo} {z:Value} (hu:E.P.underlying t=some (.slice e)) (hu2:E.P.underlying u=some .string) (hi:E.P.info? e=some ei) (hz:ei.zero=some z)
 (hzs:z.cells.size=ei.size) (hs1:ei.size=1) {s x:AV} {ys yx:Value} (hs:VRep K H.length w s ys) (hx:VRep K H.length w x yx) {F:AFr} {os ox:Opd} (hos:os.ev E.G F=s) (hox:ox.ev E.G F=x) {v:AV} {H':zz}
 (he:zj E.G (.appb e ei.bytes os ox) F H=some (true,v,H')) :
 yM E K H w (do let v ← Builtin.append_ #[t,u] ty #[ys,yx];pure (.value v)) v H':=by
 simp only [zj,hos,hox] at he
 split at he
 · rename_i str
   obtain ⟨zs,hln,hr,hk,hf⟩:=srcS_spec (k:=1) (new:=byteA str) h hx rfl rfl
   generalize hnew:byteA str=new at *
   have hone:∀ e∈new,e.cells.all AV.one=true:=fun e he=>(byteA_one str e (by rw [hnew];exact he)).2
   have hzl:zs.length=new.length:=by rw [hr.1,xb hk,Nat.mul_one]
   have lift:∀ {y w'},(Builtin.append_ #[t,u] ty #[ys,yx]).run E.P w=.ok y w'→(do let v ← Builtin.append_ #[t,u] ty #[ys,yx];pure (.value v):Sem Next).run E.P w=.ok (.value y) w':=fun hr=>by simp [hr]
   have hfd:=hf new.length (Nat.le_refl _) w.drew (fun _=>rfl)
   have hfw:=hf new.length (Nat.le_refl _) w (fun _=>rfl)
   rw [Nat.mul_one,List.take_of_length_le (by omega)] at hfd hfw
   rw [← hs1] at hfd hfw
   have hd:∀ k,TypeDesc.string≠.int k:=fun k hk=>by cases hk
   split at he
   · simp only [Option.some.injEq,Prod.mk.injEq,Bool.and_eq_true,decide_eq_true_eq] at he
     obtain ⟨⟨h0,hb⟩,rfl,rfl⟩:=he
     cases hs
     have hrun:=app_grow (w:=w) (ty:=ty) hu hu2 hd hi hz none 0 0 new.length yx [] zs (hln w) (by simp [Builtin.firstCells]) hfd (by omega) (by rw [Nat.zero_add];exact hb)
     obtain ⟨hd1,ev1⟩:=h.drew
     have hm:Mv K H.length w K H.length w.drew:=Ev.mv h ev1
     have hcap:=grownCap_ge w (0+new.length) 0 e
     obtain ⟨h2,ev2,hv⟩:=new_bsl hd1 (([]:List Value)++(zs++(Builtin.zeroCells z.cells (grownCap w (0+new.length) 0 e - (0+new.length))).toList)).toArray e (es:=new) hk
      ⟨zs,⟨hr.1,fun j c hj=>by obtain ⟨y,e1,e2⟩:=hr.2 j c hj;exact ⟨y,e1,hm.rep e2⟩⟩,fun j y hj=>by
       rw [List.getElem?_toArray,List.nil_append,List.getElem?_append_left (List.getElem?_eq_some_iff.1 hj).1];exact hj⟩ (cap:=grownCap w (0+new.length) 0 e) (by omega) (by
       simp only [List.size_toArray,List.length_append,List.length_nil,Array.length_toList,size_zeroCells,hzs,hs1,hzl];omega)
     rw [Nat.zero_add] at hrun hv h2 ev2
     refine ⟨_,_,_,.inl (lift hrun),?_,h2,ev1.trans ev2⟩
     simpa using hv
   · rename_i e' b n
     cases ha:xj H b 1 with
     | none=>rw [ha] at he;cases he
     | some es =>
      rw [ha] at he
      simp only [Option.some.injEq,Prod.mk.injEq,Bool.and_eq_true,decide_eq_true_eq] at he
      obtain ⟨⟨⟨rfl,rfl⟩,hb⟩,rfl,rfl⟩:=he
      have hbH:=xr ha
      have hbl:b<H.length:=(List.getElem?_eq_some_iff.1 hbH).1
      cases hs with
      | bsl _ _ _ blk cap c0 fz0 hM hg hc0 hle hcap0 =>
       obtain ⟨c,cty,hheap,hck,hl⟩:=h.arr hbH hg
       rw [hheap] at hc0
       simp only [Option.some.injEq,Obj.cells.injEq] at hc0
       obtain ⟨q1,q2,_⟩:=hc0
       subst q1 q2
       have hek:∀ x∈es,x.cells.length=1:=vd hck
       by_cases hroom:es.length+new.length≤cap
       · have h1n:=srcOk_one hk hone hr
         have hfit:0+es.length * ei.size+zs.length≤c.size:=by rw [hs1,hzl];omega
         have hrun:=app_room (w:=w) (ty:=ty) hu hu2 hd hi blk 0 es.length cap new.length c _ yx zs (hln w) hfw hroom hheap hfit h1n
         rw [hs1,Nat.mul_one,Nat.zero_add] at hrun
         have hfit2:es.length+zs.length≤c.toList.length:=by simpa [hs1] using hfit
         have ht:=touch_setRow w blk c _ _ (0,0) hheap (vw c zs es.length hfit2)
         obtain ⟨h2,ev2⟩:=h.touch (o':=.arr 1 (es++new)) hbH trivial hg ht trivial (fun m=>by
          have hall':∀ x∈es++new,x.cells.length=1:=fun x hx=>(List.mem_append.1 hx).elim (hek x) (hk x)
          refine .arr _ _ _ _ _ _ (setRow_heap w blk c _ _ (0,0) hheap) (fun i x hx=>hall' x (List.mem_of_getElem? hx)) (fun i x hx=>?_)
          rcases Nat.lt_or_ge i es.length with hlt | hge
          · rw [List.getElem?_append_left hlt] at hx
            refine tg m (hl i x hx) (.inl ?_) hfit2
            rw [hck i x hx];omega
          · rw [List.getElem?_append_right hge] at hx
            intro j y hj
            have hjk:j<1:=by rw [← hk x (List.mem_of_getElem? hx)];exact (List.getElem?_eq_some_iff.1 hj).1
            obtain ⟨q,e1,e2⟩:=hr.2 ((i - es.length) * 1+j) y (by rw [uq hk hx hjk];exact hj)
            refine ⟨q,?_,m.rep e2⟩
            have hlt:(i - es.length) * 1+j<zs.length:=(List.getElem?_eq_some_iff.1 e1).1
            rw [List.getElem?_toArray,xd _ _ _ _ hfit2,if_neg (by omega),if_pos (by omega)]
            rw [show 0+i * 1+j - es.length=(i - es.length) * 1+j by omega]
            exact e1)
         have hb2:(H.set b (.arr 1 (es++new)))[b]? = some (.arr 1 (es++new)):=by simp [hbl]
         obtain ⟨h3,ev3⟩:=h2.rehome (base':=0) (o':=.arr 1 (es++new)) hb2 trivial hg trivial (fun m=>by
          obtain ⟨c3,t3,g1,g2,g3⟩:=h2.arr hb2 hg
          exact .arr _ _ _ _ _ _ g1 g2 fun i x hx=>m.lies (g3 i x hx))
         simp only [List.length_set,List.set_set] at h3 ev3
         refine ⟨_,_,_,.inl (lift hrun),?_,h3,ev2.trans ev3⟩
         have:=VRep.bsl (K:=K.push H.length (some (blk,0))) (M:=(H.set b .dead++[AObj.arr 1 (es++new)]).length) (w:=w.setRow blk (c.toList.take es.length++zs++c.toList.drop (es.length+zs.length)).toArray) cty H.length (es.length+new.length) blk cap _ (0,0) (by simp) (Ctx.push_eq _ _ _) (setRow_heap w blk c _ _ (0,0) hheap) hroom (by rw [vw c zs es.length hfit2];exact hcap0)
         exact this
       · obtain ⟨olds,g1,g2⟩:=vF (K:=K) (M:=H.length) (w:=w) (blk:=blk) (off:=0) (k:=1) hek (fun i x j y hx hj=>by
          obtain ⟨q,e1,e2⟩:=hl i x hx j y hj
          refine ⟨q,?_,e2⟩
          rw [show 0+i * 1+j=i+j by omega] at e1
          simp [World.cell?,hheap,e1])
         have hol:olds.length=es.length:=by rw [g1.1,xb hek,Nat.mul_one]
         have hfo:(Builtin.firstCells ei.size es.length (.slice (some ⟨blk,0,none⟩) es.length cap)).run E.P w.drew=.ok olds.toArray w.drew:=by
          refine run_firstCells_some (P:=E.P) w.drew ei.size es.length _ es.length cap olds (by rw [hs1,hol,Nat.mul_one]) (fun j q hj=>?_)
          rw [xZ];exact g2 j q hj
         have hrun:=app_grow (w:=w) (ty:=ty) hu hu2 hd hi hz (some ⟨blk,0,none⟩) es.length cap new.length yx olds zs (hln w) hfo hfd (by omega) hb
         obtain ⟨hd1,ev1⟩:=h.drew
         have hm:Mv K H.length w K H.length w.drew:=Ev.mv h ev1
         have hcap:=grownCap_ge w (es.length+new.length) cap cty
         obtain ⟨h2,ev2,hv⟩:=new_bsl hd1 (olds++(zs++(Builtin.zeroCells z.cells (grownCap w (es.length+new.length) cap cty - (es.length+new.length))).toList)).toArray cty (es:=es++new) (fun x hx=>(List.mem_append.1 hx).elim (hek x) (hk x))
          ⟨olds++zs,by
           rw [flat_append]
           refine ⟨by simp [g1.1,hr.1],fun j q hj=>?_⟩
           rcases Nat.lt_or_ge j (flat es).length with hlt | hge
           · rw [List.getElem?_append_left hlt] at hj
             obtain ⟨y,e1,e2⟩:=g1.2 j q hj
             exact ⟨y,by rw [List.getElem?_append_left (by rw [g1.1];exact hlt)];exact e1,hm.rep e2⟩
           · rw [List.getElem?_append_right hge] at hj
             obtain ⟨y,e1,e2⟩:=hr.2 _ q hj
             exact ⟨y,by rw [List.getElem?_append_right (by rw [g1.1];exact hge),g1.1];exact e1,hm.rep e2⟩,fun j y hj=>by
           rw [List.getElem?_toArray,← List.append_assoc]
           rw [List.getElem?_append_left (List.getElem?_eq_some_iff.1 hj).1];exact hj⟩ (cap:=grownCap w (es.length+new.length) cap cty) (by rw [List.length_append];exact hcap) (by
           simp only [List.size_toArray,List.length_append,Array.length_toList,size_zeroCells,hzs,hs1,hzl,hol];omega)
         obtain ⟨h3,ev3⟩:=h2.kill b
         have e1:(H++[AObj.arr 1 (es++new)]).set b .dead=H.set b .dead++[.arr 1 (es++new)]:=by rw [List.set_append_left _ _ hbl]
         rw [e1] at h3 ev3
         refine ⟨_,_,_,.inl (lift hrun),?_,h3,(ev1.trans ev2).trans (ev3.mono (by simp))⟩
         rw [List.length_append] at hv
         simpa using hv
   · cases he
 · cases he
end
end Go.Am
end
