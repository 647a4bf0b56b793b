/- The abstract machine that the walks of this claim are carried out on: no condition. -/
import Derived.Test.YtpfnahcfnclgdaaGreatDoorPAm2
import Derived.Calls
section
namespace Go.Am
section
variable {E:Env} {K:Ctx} {w:World} {H:zz} {M:Nat}
theorem app_zeros {P:Program} {t u ty e:TypeId} {ei:TypeInfo} {z:Value} {ik:IntKind} (hu:P.underlying t=some (.slice e)) (hu2:P.underlying u=some (.int ik)) (hi:P.info? e=some ei) (hz:ei.zero=some z) (hk1:1≤ei.size)
 (base:Option Addr) (sLen sCap n:Nat) (olds:List Value) (hn0:0<n)
 (hold:(Builtin.firstCells ei.size sLen (.slice base sLen sCap)).run P w.drew=.ok olds.toArray w.drew)
 (hg:sCap<sLen+n) (hb:(sLen+n) * (ei.bytes+1)≤35184372088832) :
 (Builtin.append_ #[t,u] ty #[.slice base sLen sCap,.int .i64 n]).run P w =
  .ok (.slice (some ⟨w.heap.size,0,none⟩) (sLen+n) (grownCap w (sLen+n) sCap e)) (w.drew.alloc (.cells (olds++((Builtin.zeroCells z.cells n).toList++(Builtin.zeroCells z.cells (grownCap w (sLen+n) sCap e - (sLen+n))).toList)).toArray e)):=by
 have hn:¬ (sLen+n≤sCap):=by omega
 have hb1:sLen+n≤35184372088832:=Nat.le_trans (Nat.le_mul_of_pos_right _ (Nat.succ_pos _)) hb
 have hb2:(sLen+n) * ei.bytes≤35184372088832:=Nat.le_trans (Nat.mul_le_mul_left _ (Nat.le_succ _)) hb
 have hb3:n * ei.bytes≤35184372088832:=Nat.le_trans (Nat.mul_le_mul_right _ (Nat.le_add_left _ _)) hb2
 have h63':¬ (9223372036854775807<((sLen:Int)+(n:Int))):=by omega
 have h48':¬ (281474976710656<Builtin.nextslicecap (sLen+n) sCap * ei.bytes):=by have:=growslice_fits (bytes:=ei.bytes) hg (by omega);omega
 have hw:IntKind.i64.wrap (n:Int)=n:=by rw [IntKind.wrap_i64];omega
 have h48i:¬ (281474976710656<(n:Int) * (ei.bytes:Int)):=by
  rw [← Int.natCast_mul]
  omega
 have hneg:¬ ((n:Int)<0):=by omega
 have hns:¬ (n * ei.size=0):=Nat.mul_ne_zero (by omega) (by omega)
 have hns1:¬ (n=0):=by omega
 have hns2:¬ (ei.size=0):=by omega
 have hdrew:({ w with drawn:=w.drawn+1 }:World)=w.drew:=rfl
 simp [Builtin.append_,zY hu,zY hu2,xy hi,run_info hi,uw hi hz,asInt,asIntOf,hw,hneg,hns,h48i,hn,h63',h48',Question.forced,hold,newRow,grownCap]
 exact congrArg (fun c=>w.drew.alloc (.cells c e)) (Array.ext' (by simp))
theorem zeros_rep {k:Nat} {z:Value} (hzs:z.cells.size=k) (hone:(ofValue z).cells.all AV.one=true) (hks:(ofValue z).cells.length=k) (n:Nat):yW K M w (flat (List.replicate n (ofValue z))) (Builtin.zeroCells z.cells n).toList:=by
 obtain ⟨hcr,_⟩:=uQ (ww (K:=K) (M:=M) (w:=w) z) hone
 have hall:∀ x∈List.replicate n (ofValue z),x.cells.length=k:=fun x hx=>by rw [(List.mem_replicate.1 hx).2];exact hks
 refine ⟨?_,?_⟩
 · rw [xb hall];simp [size_zeroCells,hzs]
 · intro q x hq
   obtain ⟨i,j,e',g1,g2,rfl,hj⟩:=flat_at hall hq
   have hi':i<n:=by have:=(List.getElem?_eq_some_iff.1 g1).1;simpa using this
   rw [List.getElem?_replicate,if_pos hi'] at g1;cases g1
   obtain ⟨u,u1,u2⟩:=hcr.2 j x g2
   have hlt:i * k+j<n * k:=by have:=wh (k:=k) hi';omega
   refine ⟨u,?_,u2⟩
   have hmod:(i * k+j) % z.cells.size=j:=by rw [hzs,Nat.add_comm,Nat.add_mul_mod_self_right];exact Nat.mod_eq_of_lt hj
   have hjz:j<z.cells.size:=by omega
   have e3:(Builtin.zeroCells z.cells n).toList[i * k+j]? = some (z.cells[(i * k+j) % z.cells.size]!):=by simp [Builtin.zeroCells,hzs,hlt]
   rw [e3,hmod]
   have e4:z.cells[j]? = some u:=by simpa using u1
   simp [getElem!_def,e4]
theorem ok_appz (h:HRep E K w H) {t u ty e:TypeId} {ei:TypeInfo} {z:Value} {ik:IntKind} (hu:E.P.underlying t=some (.slice e)) (hu2:E.P.underlying u=some (.int ik)) (hi:E.P.info? e=some ei) (hz:ei.zero=some z) (hzs:z.cells.size=ei.size) (hk1:1≤ei.size)
 {s x:AV} {ys yx:Value} (hs:VRep K H.length w s ys) (hx:VRep K H.length w x yx) {F:AFr} {os ox:Opd} (hos:os.ev E.G F=s) (hox:ox.ev E.G F=x) {v:AV} {H':zz}
 (he:zj E.G (.appz ei.size ei.bytes (ofValue z) os ox) F H=some (true,v,H')) :
 yM E K H w (do let v ← Builtin.append_ #[t,u] ty #[ys,yx];pure (.value v)) v H':=by
 simp only [zj,hos,hox] at he
 have grow:∀ (base:Option Addr) (sLen sCap m:Nat) (keep:List AV) (olds:List Value),ys=.slice base sLen sCap→yx=.int .i64 m→0<m→sLen=keep.length→yW K H.length w (flat keep) olds→(∀ e∈keep,e.cells.length=ei.size) →
  (∀ w':World,(∀ a,w'.cell? a=w.cell? a)→(Builtin.firstCells ei.size sLen ys).run E.P w'=.ok olds.toArray w')→sCap<sLen+m →
  (sLen+m) * (ei.bytes+1)≤35184372088832→(ofValue z).cells.all AV.one=true→(ofValue z).cells.length=ei.size →
  yM E K H w (do let v ← Builtin.append_ #[t,u] ty #[ys,yx];pure (.value v)) (.sl H.length ei.size 0 (sLen+m)) (H++[.arr ei.size (keep++List.replicate m (ofValue z))]):=by
  rintro base sLen sCap m keep olds rfl rfl hm0 hkl hko hkk hfo hg hb hone hks
  have hol:olds.length=sLen * ei.size:=by rw [hko.1,xb hkk,hkl]
  have hrun:=app_zeros (w:=w) (ty:=ty) hu hu2 hi hz hk1 base sLen sCap m olds hm0 (hfo w.drew (fun _=>rfl)) hg hb
  obtain ⟨hd1,ev1⟩:=h.drew
  have hcap:=grownCap_ge w (sLen+m) sCap e
  have hm:Mv K H.length w K H.length w.drew:=Ev.mv h ev1
  have hzr:=zeros_rep (K:=K) (M:=H.length) (w:=w.drew) hzs hone hks m
  have hzl:(Builtin.zeroCells z.cells m).toList.length=m * ei.size:=by simp [size_zeroCells,hzs]
  have:=ok_newArr hd1 e (es:=keep++List.replicate m (ofValue z)) (k:=ei.size) (n:=sLen+m) (cap:=grownCap w (sLen+m) sCap e)
   (C:=(olds++((Builtin.zeroCells z.cells m).toList++(Builtin.zeroCells z.cells (grownCap w (sLen+m) sCap e - (sLen+m))).toList)).toArray)
   (s:=(pure (.value (.slice (some ⟨w.heap.size,0,none⟩) (sLen+m) (grownCap w (sLen+m) sCap e))):Sem Next) >>= fun v=>do let _ ← newObj (.cells (olds++((Builtin.zeroCells z.cells m).toList++(Builtin.zeroCells z.cells (grownCap w (sLen+m) sCap e - (sLen+m))).toList)).toArray e);pure v)
   (fun x hx=>(List.mem_append.1 hx).elim (hkk x) (fun hx=>by rw [(List.mem_replicate.1 hx).2];exact hks)) (by simp [hkl])
   ⟨olds++(Builtin.zeroCells z.cells m).toList,by
    rw [flat_append]
    refine ⟨by rw [List.length_append,List.length_append,hko.1,hzr.1],fun j c hj=>?_⟩
    rcases Nat.lt_or_ge j (flat keep).length with hlt | hge
    · rw [List.getElem?_append_left hlt] at hj
      obtain ⟨z,e1,e2⟩:=hko.2 j c hj
      exact ⟨z,by rw [List.getElem?_append_left (by rw [hko.1];exact hlt)];exact e1,hm.rep e2⟩
    · rw [List.getElem?_append_right hge] at hj
      obtain ⟨z,e1,e2⟩:=hzr.2 _ c hj
      exact ⟨z,by rw [List.getElem?_append_right (by rw [hko.1];exact hge),hko.1];exact e1,e2⟩,fun j z hj=>by
    rw [List.getElem?_toArray,← List.append_assoc]
    rw [List.getElem?_append_left (List.getElem?_eq_some_iff.1 hj).1];exact hj⟩ hcap
   (by
    have e1:(Builtin.zeroCells z.cells (grownCap w (sLen+m) sCap e - (sLen+m))).size=(grownCap w (sLen+m) sCap e - (sLen+m)) * ei.size:=by rw [size_zeroCells,hzs]
    simp only [List.size_toArray,List.length_append,hzl,Array.length_toList,e1,hol]
    rw [← Nat.add_assoc,← Nat.add_mul,← Nat.add_mul]
    exact Nat.le_of_eq (by congr 1;omega))
   (by simp;rfl)
  exact opOk_ev ev1 rfl (fun y w' hr=>by
   simp at hr
   obtain ⟨rfl,rfl⟩:=hr
   refine zW (hrun.trans ?_);rfl) (fun w' hr=>by simp at hr) this
 split at he
 · rename_i m
   simp only [Option.some.injEq,Prod.mk.injEq,Bool.and_eq_true,decide_eq_true_eq] at he
   obtain ⟨⟨⟨⟨hm,hb⟩,hone⟩,hks⟩,rfl,rfl⟩:=he
   obtain rfl:=zM hx
   obtain rfl:=zM hs
   have e0:m=((m.toNat:Nat):Int):=by omega
   have:=grow none 0 0 m.toNat [] [] rfl (by rw [← e0]) (by omega) rfl ⟨rfl,fun j c hj=>by simp [flat] at hj⟩ (fun e he=>by cases he) (fun w' _=>by simp [Builtin.firstCells]) (by omega) (by simpa using hb) hone (Nat.eq_of_beq_eq_true hks)
   simpa using this
 · rename_i m b k' lo len cap
   cases ha:xj H b ei.size with
   | none=>rw [ha] at he;cases he
   | some es =>
    rw [ha] at he
    simp only [Option.some.injEq,Prod.mk.injEq,Bool.and_eq_true,decide_eq_true_eq] at he
    obtain ⟨⟨⟨⟨⟨⟨hkk,hle⟩,hfit⟩,hm,hcm,hb⟩,hone⟩,hks⟩,rfl,rfl⟩:=he
    have hkk:=Nat.eq_of_beq_eq_true hkk
    subst hkk
    obtain rfl:=zM hx
    have e0:m=((m.toNat:Nat):Int):=by omega
    cases hs with
    | slc _ _ _ _ _ blk base hM hg hlc hsz =>
     obtain ⟨c,cty,hheap,hck,hl⟩:=h.arr (xr ha) hg
     have hdk:∀ e∈(es.drop lo).take len,e.cells.length=ei.size:=fun e he=>(fitB_spec hfit e he).1
     have hdl:((es.drop lo).take len).length=len:=by simp;omega
     obtain ⟨zs,g1,g2⟩:=vF (K:=K) (M:=H.length) (w:=w) (blk:=blk) (off:=base+lo * ei.size) hdk (fun i e j x he hj=>by
      have he':es[lo+i]? = some e:=by
       rw [List.getElem?_take] at he
       split at he
       · rwa [List.getElem?_drop] at he
       · cases he
      obtain ⟨y,e1,e2⟩:=hl _ e he' j x hj
      refine ⟨y,?_,e2⟩
      rw [show base+lo * ei.size+(i * ei.size+j)=base+(lo+i) * ei.size+j by rw [Nat.add_mul];omega]
      simp [World.cell?,hheap,e1])
     exact grow _ len cap m.toNat ((es.drop lo).take len) zs rfl (by rw [← e0]) (by omega) hdl.symm g1 hdk (fun w' hw=>run_firstCells_some (P:=E.P) w' ei.size len _ len cap zs (by rw [g1.1,xb hdk,hdl]) (fun j v hj=>by rw [xZ,hw];exact g2 j v hj)) (by omega) hb hone (Nat.eq_of_beq_eq_true hks)
 · cases he
theorem evalOp2_sound (h:HRep E K w H) {F:AFr} {ρ:Operand→Value} (hρ:Ops E K H w F ρ) {o:Oper} {v:AV} {H':zz} (he:zj E.G (za E.P o.op) F H=some (true,v,H')):yM E K H w (execOp ρ o) v H':=by
 have nope:∀ {p:Prop},zj E.G .bad F H=some (true,v,H')→p:=fun h=>by simp [zj] at h
 cases ho:o.op with
 | alloc t =>
  rw [ho] at he;simp only [za] at he
  split at he
  · rename_i z hz
    split at he
    · rename_i hb
      have hx:=isBld_spec hb
      cases hx
      simp only [zj,ans,Option.some.injEq,Prod.mk.injEq] at he
      obtain ⟨_,rfl,rfl⟩:=he
      obtain ⟨i,hi,hz⟩:=Option.bind_eq_some_iff.1 hz
      have:=ok_bnew h t (y:=.agg #[.pointer none,.slice none 0 0]) (ww _)
      obtain ⟨y,w',K',hr,hv,hh,ev⟩:=this
      have he2:(execOp ρ o).run E.P w=(do let v ← Instr.box t (.agg #[.pointer none,.slice none 0 0]);pure (.value v):Sem Next).run E.P w:=by
       simp [execOp,ho,Instr.alloc,Instr.box,uw hi hz,newVar,newRow]
      exact ⟨y,w',K',by rw [he2];exact hr,hv,hh,ev⟩
    · simp [zj] at he
  · exact nope he
 | box t x =>
  rw [ho] at he;simp only [za] at he
  split at he
  · rename_i hb
    have hx:=isBld_spec hb
    subst hx
    simp only [zj,ans,Option.some.injEq,Prod.mk.injEq] at he
    obtain ⟨_,rfl,rfl⟩:=he
    have hv:=hρ (.const (.agg #[.pointer none,.slice none 0 0]))
    have:=ok_bnew h t (y:=ρ (.const (.agg #[.pointer none,.slice none 0 0]))) hv
    simpa [execOp,ho,Instr.box,newVar,newRow] using this
  · simp [zj] at he
 | build t ps =>
  rw [ho] at he;simp only [za] at he
  (repeat' split at he)<;>simp [zj] at he
 | buildSlice t len ps =>
  rw [ho] at he;simp only [za] at he
  (repeat' split at he)<;>simp [zj] at he
 | load t x=>rw [ho] at he;simp only [za] at he;split at he<;>simp [zj] at he
 | store t x y=>rw [ho] at he;simp only [za] at he;split at he<;>simp [zj] at he
 | binOp op t x y ty =>
  rw [ho] at he;simp only [za] at he
  have eqn:∀ {neq:Bool} {e:TypeId},E.P.underlying t=some (.slice e)→zj E.G (.eqnil neq (opd x) (opd y)) F H=some (true,v,H') →
   yM E K H w (do let v ← (do eqGuard (if neq then .neq else .eql) t x y (ρ x) (ρ y);binOp (if neq then .neq else .eql) t (ρ x) (ρ y));pure (.value v)) v H':=by
   intro neq e hu he
   simp only [zj] at he
   split at he
   · rename_i b hy hx
     simp only [ans,Option.some.injEq,Prod.mk.injEq] at he
     obtain ⟨_,rfl,rfl⟩:=he
     obtain ⟨a,n,c,e1,e2⟩:=nilOf_spec (hρ x) hx
     have e3:=hρ y
     rw [hy] at e3
     have e3:=zM e3
     rw [e1,e3,← e2]
     exact ok_eqnil h hu a n c
   · cases he
  have shr:zj E.G (.bin op (opd x) (opd y)) F H=some (true,v,H')→yM E K H w (do let v ← (do eqGuard op t x y (ρ x) (ρ y);binOp op t (ρ x) (ρ y));pure (.value v)) v H':=by
   intro he
   cases op with
   | shr=>exact ok_shr h (hρ x) (hρ y) he
   | _=>simp [zj] at he
  split at he
  all_goals first
   | exact nope he
   | (split at he<;>simp [zj] at he;done)
   | (have:=eqn (neq:=false) ‹_› he;simpa only [execOp,ho,if_true,Bool.false_eq_true,if_false] using this)
   | (have:=eqn (neq:=true) ‹_› he;simpa only [execOp,ho,if_true,Bool.false_eq_true,if_false] using this)
   | (simpa only [execOp,ho] using shr he)
   | (simp [zj] at he;done)
 | convert s d x=>rw [ho] at he;simp only [za] at he;split at he<;>first | (simp [zj] at he;done) | (split at he<;>simp [zj] at he)
 | makeInterface t x=>rw [ho] at he;simp only [za] at he;split at he<;>simp [zj] at he
 | makeFunc fn first caps =>
  rw [ho] at he
  cases fn with
  | func f=>simp only [za] at he;split at he<;>simp [zj] at he
  | _=>exact nope he
 | makeSlice t l c =>
  rw [ho] at he;simp only [za] at he
  (repeat' split at he)<;>simp [zj] at he
 | slice t x lo hi mx =>
  rw [ho] at he;simp only [za] at he
  split at he
  · rename_i e hu
    split at he
    · rename_i ei hi
      have:=ok_slc2 h hu hi hρ he
      simpa only [execOp,ho,Option.map_none] using this
    · rename_i ei hi
      have:=ok_slc3 h hu hi hρ he
      simpa only [execOp,ho,Option.map_some] using this
    · exact nope he
  · split at he<;>simp [zj] at he
  · exact nope he
 | fieldAddr s x f =>
  rw [ho] at he;simp only [za] at he
  (repeat' split at he)<;>simp [zj] at he
 | field t x f =>
  rw [ho] at he;simp only [za] at he
  (repeat' split at he)<;>simp [zj] at he
 | indexAddr t x i =>
  rw [ho] at he;simp only [za] at he
  split at he
  · rename_i e hu
    split at he
    · rename_i ei hi
      have:=ok_ia2 h hu hi (hρ x) (hρ i) rfl rfl he
      simpa only [execOp,ho] using this
    · exact nope he
  · split at he<;>simp [zj] at he
  · exact nope he
 | index t x i =>
  rw [ho] at he;simp only [za] at he
  (repeat' split at he)<;>simp [zj] at he
 | makeMap t r =>
  rw [ho] at he
  cases r with
  | none =>
   simp only [za,zj,ans,Option.some.injEq,Prod.mk.injEq] at he
   obtain ⟨_,rfl,rfl⟩:=he
   have:=ok_mkmap h t
   simpa only [execOp,ho,Option.map_none] using this
  | some r=>exact nope he
 | lookup t m x ok =>
  rw [ho] at he;simp only [za] at he
  have look:∀ {k e:TypeId} {kd:TypeDesc} {st:Bool} {z:Value},E.P.underlying t=some (.map k e)→E.P.underlying k=some kd→vh st kd→(E.P.info? e).bind (·.zero)=some z →
   zj E.G (.mlook st (ofValue z) (opd m) (opd x) ok) F H=some (true,v,H')→yM E K H w (execOp ρ o) v H':=by
   intro k e kd st z ht hk hd hz he
   obtain ⟨ei,hi,hz⟩:=Option.bind_eq_some_iff.1 hz
   simp only [zj] at he
   split at he
   · rename_i b es hmo
     simp only [Option.some.injEq,Prod.mk.injEq,Bool.and_eq_true] at he
     obtain ⟨⟨_,ho2⟩,rfl,rfl⟩:=he
     have:=ok_mlook h ht hk hd hi hz (hρ m) (hρ x) hmo ho2 ok
     simpa only [execOp,ho] using this
   · cases he
  split at he
  · rename_i k e ht
    split at he
    · rename_i z hk hz;exact look ht hk rfl hz he
    · rename_i j z hk hz;exact look ht hk rfl hz he
    · exact nope he
  · exact nope he
 | mapUpdate t m x y =>
  rw [ho] at he;simp only [za] at he
  have put:∀ {k e:TypeId} {kd:TypeDesc} {st:Bool},E.P.underlying t=some (.map k e)→E.P.underlying k=some kd→vh st kd →
   zj E.G (.mput st (opd m) (opd x) (opd y)) F H=some (true,v,H')→yM E K H w (execOp ρ o) v H':=by
   intro k e kd st ht hk hd he
   simp only [zj] at he
   split at he
   · rename_i b es hmo
     simp only [Option.some.injEq,Prod.mk.injEq,Bool.and_eq_true] at he
     obtain ⟨⟨_,ho2⟩,rfl,rfl⟩:=he
     have:=ok_mput h ht hk hd (hρ m) (hρ x) (hρ y) hmo ho2
     simpa only [execOp,ho] using this
   · cases he
  split at he
  · rename_i k e ht
    split at he
    · rename_i hk;exact put ht hk rfl he
    · rename_i j hk;exact put ht hk rfl he
    · exact nope he
  · exact nope he
 | call c =>
  rw [ho] at he;simp only [za] at he
  obtain ⟨callee,args,argTypes⟩:=c
  dsimp only at he
  split at he
  · simp [zj] at he
  · simp [zj] at he
  · exact nope he
  · rename_i b
    have hex:execOp ρ o=(do let d ← resolve ρ { callee:=.builtin b,args,argTypes } o.type;invoke d.target d.args):=by simp only [execOp,ho]
    have harr:∀ l,args.toList=l→args=l.toArray:=fun l h=>by rw [← h]
    have harr':∀ l,argTypes.toList=l→argTypes=l.toArray:=fun l h=>by rw [← h]
    split at he
    · rename_i x t ha ht
      rw [harr _ ha,harr' _ ht] at hex
      split at he
      · rename_i e hu
        have:=ok_len2 (ty:=o.type) h hu (hρ x) rfl he
        rw [hex];simpa [resolve,invoke,builtin] using this
      · simp [zj] at he
      · simp [zj] at he
      · exact nope he
    · rename_i x t ha ht
      rw [harr _ ha,harr' _ ht] at hex
      split at he
      · rename_i e hu
        have:=ok_cap (ty:=o.type) h hu (hρ x) rfl he
        rw [hex];simpa [resolve,invoke,builtin] using this
      · exact nope he
    · rename_i s x t u ha ht
      rw [harr _ ha,harr' _ ht] at hex
      split at he
      · (repeat' split at he)<;>simp [zj] at he
      · rename_i e ik hu hu2
        split at he
        · rename_i ei hi
          split at he
          · rename_i z hz0
            split at he
            · rename_i hc
              simp only [Bool.and_eq_true] at hc
              have:=ok_appz (ty:=o.type) h hu hu2 hi hz0 (Nat.eq_of_beq_eq_true hc.1) (Nat.le_of_ble_eq_true hc.2) (hρ s) (hρ x) rfl rfl he
              rw [hex];simpa [resolve,invoke,builtin] using this
            · exact nope he
          · exact nope he
        · exact nope he
      · rename_i e hu hu2
        split at he
        · rename_i ei hi
          split at he
          · rename_i hc
            simp only [Bool.and_eq_true] at hc
            have hz:=hc.1
            unfold vA at hz
            split at hz
            · rename_i z hz0
              have:=ok_appb (ty:=o.type) h hu hu2 hi hz0 (Nat.eq_of_beq_eq_true hz) (Nat.eq_of_beq_eq_true hc.2) (hρ s) (hρ x) rfl rfl he
              rw [hex];simpa [resolve,invoke,builtin] using this
            · cases hz
          · exact nope he
        · exact nope he
      · exact nope he
    · rename_i d s t u ha ht
      rw [harr _ ha,harr' _ ht] at hex
      split at he
      · rename_i e e2 hu hu2
        split at he
        · rename_i ei hi
          have:=ok_copy (ty:=o.type) (u:=u) h hu hi (hρ d) (hρ s) rfl rfl he
          rw [hex];simpa [resolve,invoke,builtin] using this
        · exact nope he
      · exact nope he
    · simp [zj] at he
    · simp [zj] at he
    · (repeat' split at he)<;>first | exact nope he | (simp [zj] at he;done)
    · exact nope he
 | _=>rw [ho] at he;first | exact nope he | (simp [za,zj] at he;done)
def zF (G:Nat→AV) (o:AOp) (F:AFr) (H:zz):Ans :=
 match zr G o F H with
 | some r=>some r
 | none=>zj G o F H
theorem evalOp_some1 {G:Nat→AV} {o:AOp} {F:AFr} {H:zz} {r:Bool × AV × zz} (h:zr G o F H=some r):zF G o F H=some r:=by simp only [zF,h]
theorem evalOp_some2 {G:Nat→AV} {o:AOp} {F:AFr} {H:zz} {r:Bool × AV × zz} (h:zF G o F H=some r):zr G o F H=some r∨zj G o F H=some r:=by
 unfold zF at h
 split at h
 · rename_i e;exact .inl (e.trans h)
 · exact .inr h
theorem evalOp_sound (h:HRep E K w H) {F:AFr} {ρ:Operand→Value} (hρ:Ops E K H w F ρ) {o:Oper} {v:AV} {H':zz} (he:zF E.G (za E.P o.op) F H=some (true,v,H')):yM E K H w (execOp ρ o) v H':=by
 rcases evalOp_some2 he with he | he
 · exact evalOp1_sound h hρ he
 · exact evalOp2_sound h hρ he
end
end Go.Am
end
section
namespace Go.Am
structure Fc where
 fn:FuncId
 kind:CallKind
 round:Option Nat
def Fc.fr (T:Fc) (tmps:Array Value) (ds:List Deferred) (todo:List Item):Frame :=
 { fn:=T.fn,tmps,todo,defers:=ds,mode:=.run,kind:=T.kind,roundOf:=T.round }
def xe (r:Nat):Deferred:={ target:=.collected r,args:=#[] }
theorem Fc.eval_fr (T:Fc) (tmps:Array Value) (ds:List Deferred) (todo:List Item) (x:Operand) :
 (T.fr tmps ds todo).eval x=match x with | .tmp t=>tmps.getD t undef | .const v=>v | .global g=>.pointer (some ⟨g,0,none⟩) | .func f=>.func (.func f) #[] #[]:=by
 cases x<;>rfl
theorem tx {E:Env} {K:Ctx} {w:World} {H:zz} {n:Nat} {F:AFr} {tmps:Array Value} (h:HRep E K w H) (hF:vi n K H.length w F tmps) {ρ:Operand→Value}
 (hρ:∀ x,ρ x=match x with | .tmp t=>tmps.getD t undef | .const v=>v | .global g=>.pointer (some ⟨g,0,none⟩) | .func f=>.func (.func f) #[] #[]):Ops E K H w F ρ:=by
 intro x
 rw [hρ]
 cases x with
 | tmp t=>exact hF.2 t
 | const v=>exact ww v
 | global g=>exact VRep.mono (K:=K) (fun b hb=>absurd hb (Nat.not_lt_zero _)) (Nat.zero_le _) (fun _ h=>h) (fun _ _ _=>rfl) (fun b c ty fz h=>⟨c,fz,h,rfl⟩) (h.glob g)
 | func f=>exact .fn f [] [] rfl (fun i c y h=>by simp at h)
section steps
variable {P:Program} {T:Fc} {tmps:Array Value} {ds:List Deferred} {k:List Item} {cs:List Frame} {w:World}
theorem st_skip : step P (lone (T.fr tmps ds (.code .skip :: k)) cs w)=.next (lone (T.fr tmps ds k) cs w):=step_lone_go (by simp [stepG,stepG.exec,Fc.fr])
theorem st_label {l:Nat}:step P (lone (T.fr tmps ds (.code (.label l) :: k)) cs w)=.next (lone (T.fr tmps ds k) cs w):=step_lone_go (by simp [stepG,stepG.exec,Fc.fr])
theorem st_inBlock {id:Nat}:step P (lone (T.fr tmps ds (.inBlock id :: k)) cs w)=.next (lone (T.fr tmps ds k) cs w):=step_lone_go (by simp [stepG,stepG.exec,Fc.fr])
theorem st_inScope {c:Code}:step P (lone (T.fr tmps ds (.inScope c :: k)) cs w)=.next (lone (T.fr tmps ds k) cs w):=step_lone_go (by simp [stepG,stepG.exec,Fc.fr])
theorem st_seq {x y:Code}:step P (lone (T.fr tmps ds (.code (.seq x y) :: k)) cs w)=.next (lone (T.fr tmps ds (.code x :: .code y :: k)) cs w):=step_lone_go (by simp [stepG,stepG.exec,Fc.fr])
theorem st_cond {c:Operand} {x y:Code} {t:Bool} (h:(T.fr tmps ds (.code (.cond c x y) :: k)).eval c=.bool t) :
 step P (lone (T.fr tmps ds (.code (.cond c x y) :: k)) cs w)=.next (lone (T.fr tmps ds (.code (if t then x else y) :: k)) cs w) :=
 step_lone_go (by simp only [Fc.fr] at h;simp [stepG,stepG.exec,Fc.fr,h])
theorem st_block {id:Nat} {c:Code}:step P (lone (T.fr tmps ds (.code (.block id c) :: k)) cs w)=.next (lone (T.fr tmps ds (.code c :: .inBlock id :: k)) cs w):=step_lone_go (by simp [stepG,stepG.exec,Fc.fr])
theorem st_loop {c:Code}:step P (lone (T.fr tmps ds (.code (.loop c) :: k)) cs w)=.next (lone (T.fr tmps ds (.code c :: .inLoop c :: k)) cs w):=step_lone_go (by simp [stepG,stepG.exec,Fc.fr])
theorem st_inLoop {c:Code}:step P (lone (T.fr tmps ds (.inLoop c :: k)) cs w)=.next (lone (T.fr tmps ds (.code c :: .inLoop c :: k)) cs w):=step_lone_go (by simp [stepG,stepG.exec,Fc.fr])
theorem st_scope {c:Code}:step P (lone (T.fr tmps ds (.code (.scope c) :: k)) cs w)=.next (lone (T.fr tmps ds (.code c :: .inScope c :: k)) cs w):=step_lone_go (by simp [stepG,stepG.exec,Fc.fr])
theorem st_exit {id:Nat} {k':List Item} (h:exitTo id k=some k'):step P (lone (T.fr tmps ds (.code (.exit id) :: k)) cs w)=.next (lone (T.fr tmps ds k') cs w):=step_lone_go (by simp [stepG,stepG.exec,Fc.fr,h])
theorem st_region {id:Nat} {ops:Array Oper}:step P (lone (T.fr tmps ds (.code (.region id ops false) :: k)) cs w)=.next (lone (T.fr tmps ds (.inRegion ops (List.range ops.size) :: k)) cs w):=step_lone_go (by simp [stepG,stepG.exec,Fc.fr])
theorem st_region_draw {id:Nat} {ops:Array Oper}:step P (lone (T.fr tmps ds (.code (.region id ops true) :: k)) cs w) =
 .next (lone (T.fr tmps ds (.inRegion ops (Region.schedule (P.follows .mixedOrders) ops (w.tape w.drawn (.order T.fn id))) :: k)) cs w.drew) :=
 step_lone_go (by simp [stepG,stepG.exec,Fc.fr,choose,Sem.run,Question.forced,Question.cut])
theorem st_region_end {ops:Array Oper}:step P (lone (T.fr tmps ds (.inRegion ops [] :: k)) cs w)=.next (lone (T.fr tmps ds k) cs w):=step_lone_go (by simp [stepG,stepG.exec,Fc.fr])
def rZ (tmps:Array Value) (d:Option Nat) (v:Value):Array Value :=
 match d with
 | some d=>tmps.setIfInBounds d v
 | none=>tmps
theorem uY {ops:Array Oper} {i:Nat} {rest:List Nat} (v:Value):(T.fr tmps ds (.inRegion ops (i :: rest) :: k)).finish v=T.fr (rZ tmps ((ops[i]?).bind (·.dst)) v) ds (.inRegion ops rest :: k):=by
 cases h:(ops[i]?).bind (·.dst)<;>simp [Frame.finish,Fc.fr,rZ,h]
theorem st_op_skip {ops:Array Oper} {i:Nat} {rest:List Nat} (h:((ops[i]?).map (Region.wanted · (yielded ops tmps))).getD false=false) :
 step P (lone (T.fr tmps ds (.inRegion ops (i :: rest) :: k)) cs w)=.next (lone (T.fr (rZ tmps ((ops[i]?).bind (·.dst)) undef) ds (.inRegion ops rest :: k)) cs w):=by
 rw [← uY]
 exact step_lone_go (by
  have h':=h
  simp only [Fc.fr] at *
  simp [stepG,stepG.exec,h'])
theorem stG_op {ops:Array Oper} {i:Nat} {rest:List Nat} {o:Oper} (ho:ops[i]? = some o) (hw:Region.wanted o (yielded ops tmps)=true) (hnd:∀ c,o.op≠.defer c) :
 stepG P true { frame:=T.fr tmps ds (.inRegion ops (i :: rest) :: k),callers:=cs,status:=.running,dying:=none } w =
  stepG.apply P true (T.fr tmps ds (.inRegion ops (i :: rest) :: k)) cs none (execOp (T.fr tmps ds (.inRegion ops (i :: rest) :: k)).eval o) w:=by
 simp only [Fc.fr] at *
 simp only [stepG,stepG.exec,ho,Option.map_some,Option.getD_some,hw,if_true]
 unfold stepG.oper
 have hof:({ fn:=T.fn,tmps:=tmps,todo:=.inRegion ops (i :: rest) :: k,defers:=ds,mode:=.run,kind:=T.kind,roundOf:=T.round }:Frame).oper? = some o:=by simp [Frame.oper?,ho]
 simp only [hof]
 cases hr:T.round with
 | none=>rfl
 | some l=>cases hop:o.op<;>first | rfl | exact absurd hop (hnd _)
theorem st_op_value {ops:Array Oper} {i:Nat} {rest:List Nat} {o:Oper} (ho:ops[i]? = some o) (hw:Region.wanted o (yielded ops tmps)=true) (hnd:∀ c,o.op≠.defer c) {y:Value} {w':World}
 (hr:(execOp (T.fr tmps ds (.inRegion ops (i :: rest) :: k)).eval o).run P w=.ok (.value y) w'∨((execOp (T.fr tmps ds (.inRegion ops (i :: rest) :: k)).eval o).run P w=.ok .skip w'∧y=undef)) :
 step P (lone (T.fr tmps ds (.inRegion ops (i :: rest) :: k)) cs w)=.next (lone (T.fr (rZ tmps o.dst y) ds (.inRegion ops rest :: k)) cs w'):=by
 have hf:=uY (T:=T) (tmps:=tmps) (ds:=ds) (k:=k) (ops:=ops) (i:=i) (rest:=rest) y
 rw [ho] at hf
 simp only [Option.bind_some] at hf
 rw [← hf]
 refine step_lone_go ?_
 rw [stG_op ho hw hnd]
 rcases hr with hr | ⟨hr,rfl⟩
 · simp [stepG.apply,hr]
 · simp [stepG.apply,hr]
theorem st_op_enter {ops:Array Oper} {i:Nat} {rest:List Nat} {o:Oper} (ho:ops[i]? = some o) (hw:Region.wanted o (yielded ops tmps)=true) (hnd:∀ c,o.op≠.defer c) {f:FuncId} {args:Array Value} {w':World}
 (hr:(execOp (T.fr tmps ds (.inRegion ops (i :: rest) :: k)).eval o).run P w=.ok (.enter f args) w') :
 step P (lone (T.fr tmps ds (.inRegion ops (i :: rest) :: k)) cs w)=.next (lone (Frame.enter P f args .normal) (T.fr tmps ds (.inRegion ops (i :: rest) :: k) :: cs) w'):=by
 refine step_lone_go ?_
 rw [stG_op ho hw hnd]
 simp [stepG.apply,hr]
 try rfl
theorem st_op_round {ops:Array Oper} {i:Nat} {rest:List Nat} {o:Oper} (ho:ops[i]? = some o) (hw:Region.wanted o (yielded ops tmps)=true) (hnd:∀ c,o.op≠.defer c) {l f:Nat} {ts:Array Value} {a b:Code} {w':World}
 (hr:(execOp (T.fr tmps ds (.inRegion ops (i :: rest) :: k)).eval o).run P w=.ok (.round l f ts a b) w') :
 step P (lone (T.fr tmps ds (.inRegion ops (i :: rest) :: k)) cs w)=.next (lone (Frame.round l f ts a b .normal) (T.fr tmps ds (.inRegion ops (i :: rest) :: k) :: cs) w'):=by
 refine step_lone_go ?_
 rw [stG_op ho hw hnd]
 simp [stepG.apply,hr]
 try rfl
end steps
structure Aux (T:Fc) (rs:List Nat) (K:Ctx) (H:zz) (w:World):Prop where
 round:∀ l,T.round=some l→∃ r,w.heap[l]? = some (.loop r)
 nodup:rs.Nodup
 marks:∀ r∈rs,w.heap[r]? = some (.deferred (some []))∧¬ yb K H r∧¬ K.I r
theorem Aux.ev {T:Fc} {rs:List Nat} {N:Nat} {K K':Ctx} {H H':zz} {w w':World} (a:Aux T rs K H w) (ev:Ev N K H w K' H' w'):Aux T rs K' H' w' where
 round l hl:=by obtain ⟨r,hr⟩:=a.round l hl;exact ev.loops l r hr
 nodup:=a.nodup
 marks r hr:=by
  obtain ⟨h1,h2,h3⟩:=a.marks r hr
  have hlt:r<w.heap.size:=(Array.getElem?_eq_some_iff.1 h1).1
  refine ⟨(ev.frame r hlt h2).trans h1,fun h=>?_,fun h=>?_⟩
  · rcases ev.own r h with h | h
    · exact h2 h
    · omega
  · rcases ev.I' r h with h | h | h
    · exact h3 h
    · exact h2 h
    · omega
inductive Arr (k:List Item):zL→List Item→Prop
 | normal:Arr k .normal k
 | exit (id:Nat) (k':List Item) (h:exitTo id k'=exitTo id k):Arr k (.exit id) (.code (.exit id) :: k')
 | ret (k':List Item):Arr k .ret (.code .ret :: k')
theorem Arr.pass {k k2:List Item} {e:zL} {todo:List Item} (h:Arr k e todo) (hk:∀ i,exitTo i k=exitTo i k2) (he:e≠.normal):Arr k2 e todo:=by
 cases h with
 | normal=>exact absurd rfl he
 | exit id k' h=>exact .exit id k' (h.trans (hk id))
 | ret k'=>exact .ret k'
def AWP (E:Env) (n N:Nat) (ac:ACode) (F:AFr) (H:zz) (Q:zL→AFr→zz→Prop):Prop :=
 ∀ c,yF E.P n c=ac→∀ K w tmps (T:Fc) rs k cs,HRep E K w H→vi n K H.length w F tmps→N≤H.length→Aux T rs K H w →
  ∃ e F' H' K' w' tmps' nw todo,Q e F' H'∧HRep E K' w' H'∧vi n K' H'.length w' F' tmps'∧Ev N K H w K' H' w'∧Aux T (nw++rs) K' H' w'∧(∀ r∈nw,w.heap.size≤r)∧Arr k e todo ∧
   Steps E.P (lone (T.fr tmps (rs.map xe) (.code c :: k)) cs w) (lone (T.fr tmps' ((nw++rs).map xe) todo) cs w')
def VReps (K:Ctx) (M:Nat) (w:World) (xs:List AV) (ys:List Value):Prop:=xs.length=ys.length∧∀ (i:Nat) x y,xs[i]? = some x→ys[i]? = some y→VRep K M w x y
def ACall (E:Env) (f:FuncId) (args:List AV) (H:zz) (R:AV→zz→Prop):Prop :=
 ∀ K w ys,HRep E K w H→VReps K H.length w args ys →
  Calls E.P f ys.toArray w fun e w'=>∃ v y H' K',e=.returned y∧R v H'∧HRep E K' w' H'∧VRep K' H'.length w' v y∧Ev H.length K H w K' H' w'
theorem ACall.mono {E:Env} {f:FuncId} {args:List AV} {H:zz} {R R':AV→zz→Prop} (h:ACall E f args H R) (hr:∀ v H',R v H'→R' v H'):ACall E f args H R' :=
 fun K w ys hh hv=>(h K w ys hh hv).mono fun _e _w' ⟨v,y,H',K',h1,h2,h3⟩=>⟨v,y,H',K',h1,hr v H' h2,h3⟩
theorem AWP.mono {E:Env} {n N:Nat} {ac:ACode} {F:AFr} {H:zz} {Q Q':zL→AFr→zz→Prop} (h:AWP E n N ac F H Q) (hq:∀ e F H,Q e F H→Q' e F H):AWP E n N ac F H Q':=by
 intro c hc K w tmps T rs k cs h1 h2 h3 h4
 obtain ⟨e,F',H',K',w',tmps',nw,todo,q,r⟩:=h c hc K w tmps T rs k cs h1 h2 h3 h4
 exact ⟨e,F',H',K',w',tmps',nw,todo,hq _ _ _ q,r⟩
def Ent (E:Env) (n N:Nat) (F:AFr) (H:zz) (F':AFr) (H':zz):Prop :=
 ∀ K w tmps,HRep E K w H→vi n K H.length w F tmps→N≤H.length→∃ K',HRep E K' w H'∧vi n K' H'.length w F' tmps∧Ev N K H w K' H' w
theorem Ent.refl (E:Env) (n N:Nat) (F:AFr) (H:zz):Ent E n N F H F H:=fun K _w _tmps h1 h2 h3=>⟨K,h1,h2,Ev.refl _ _ _ _ h3⟩
theorem Ent.trans {E:Env} {n N:Nat} {F F1 F2:AFr} {H H1 H2:zz} (a:Ent E n N F H F1 H1) (b:Ent E n N F1 H1 F2 H2):Ent E n N F H F2 H2:=by
 intro K w tmps h1 h2 h3
 obtain ⟨K1,g1,g2,ev1⟩:=a K w tmps h1 h2 h3
 obtain ⟨K2,k1,k2,ev2⟩:=b K1 w tmps g1 g2 ev1.len
 exact ⟨K2,k1,k2,ev1.trans ev2⟩
theorem AWP.ent {E:Env} {n N:Nat} {ac:ACode} {F F':AFr} {H H':zz} {Q:zL→AFr→zz→Prop} (he:Ent E n N F H F' H') (h:AWP E n N ac F' H' Q):AWP E n N ac F H Q:=by
 intro c hc K w tmps T rs k cs h1 h2 h3 h4
 obtain ⟨K1,g1,g2,ev1⟩:=he K w tmps h1 h2 h3
 obtain ⟨e,F2,H2,K2,w2,tmps2,nw,todo,q,a,b,ev2,x⟩:=h c hc K1 w tmps T rs k cs g1 g2 ev1.len (h4.ev ev1)
 exact ⟨e,F2,H2,K2,w2,tmps2,nw,todo,q,a,b,ev1.trans ev2,x⟩
section rules
variable {E:Env} {n N:Nat} {F:AFr} {H:zz} {Q:zL→AFr→zz→Prop}
theorem xH {ac:ACode} (base:∀ c,yF E.P n c=ac→(∀ a,c≠.scope a)→∀ K w tmps (T:Fc) rs k cs,HRep E K w H→vi n K H.length w F tmps→N≤H.length→Aux T rs K H w →
 ∃ e F' H' K' w' tmps' nw todo,Q e F' H'∧HRep E K' w' H'∧vi n K' H'.length w' F' tmps'∧Ev N K H w K' H' w'∧Aux T (nw++rs) K' H' w'∧(∀ r∈nw,w.heap.size≤r)∧Arr k e todo ∧
  Steps E.P (lone (T.fr tmps (rs.map xe) (.code c :: k)) cs w) (lone (T.fr tmps' ((nw++rs).map xe) todo) cs w')):AWP E n N ac F H Q:=by
 intro c
 induction c with
 | scope a ih =>
  intro hc K w tmps T rs k cs h1 h2 h3 h4
  obtain ⟨e,F',H',K',w',tmps',nw,todo,q,a1,a2,a3,a4,a5,harr,hs⟩:=ih hc K w tmps T rs (.inScope a :: k) cs h1 h2 h3 h4
  by_cases he:e=.normal
  · subst he
    cases harr
    exact ⟨.normal,F',H',K',w',tmps',nw,k,q,a1,a2,a3,a4,a5,.normal,.head st_scope (hs.trans (.one st_inScope))⟩
  · exact ⟨e,F',H',K',w',tmps',nw,todo,q,a1,a2,a3,a4,a5,harr.pass (fun i=>rfl) he,.head st_scope hs⟩
 | _=>intro hc;exact base _ hc (fun a h=>by cases h)
theorem awp_skip (h:Q .normal F H):AWP E n N .skip F H Q:=by
 refine xH fun c hc hns K w tmps T rs k cs h1 h2 h3 h4=>?_
 refine ⟨.normal,F,H,K,w,tmps,[],k,h,h1,h2,Ev.refl _ _ _ _ h3,h4,(fun r hr=>by cases hr),.normal,?_⟩
 cases c with
 | skip=>exact .one st_skip
 | label l=>exact .one st_label
 | region id ops d=>simp only [yF] at hc;split at hc<;>cases hc
 | rangeFunc f ps a b=>simp only [yF] at hc;split at hc<;>cases hc
 | scope a=>exact absurd rfl (hns a)
 | _=>cases hc
theorem awp_ret (h:Q .ret F H):AWP E n N .ret F H Q:=by
 refine xH fun c hc hns K w tmps T rs k cs h1 h2 h3 h4=>?_
 refine ⟨.ret,F,H,K,w,tmps,[],.code .ret :: k,h,h1,h2,Ev.refl _ _ _ _ h3,h4,(fun r hr=>by cases hr),.ret k,?_⟩
 cases c with
 | ret=>exact .refl _ _
 | region id ops d=>simp only [yF] at hc;split at hc<;>cases hc
 | rangeFunc f ps a b=>simp only [yF] at hc;split at hc<;>cases hc
 | scope a=>exact absurd rfl (hns a)
 | _=>cases hc
theorem awp_exit {id:Nat} (h:Q (.exit id) F H):AWP E n N (.exit id) F H Q:=by
 refine xH fun c hc hns K w tmps T rs k cs h1 h2 h3 h4=>?_
 refine ⟨.exit id,F,H,K,w,tmps,[],.code (.exit id) :: k,h,h1,h2,Ev.refl _ _ _ _ h3,h4,(fun r hr=>by cases hr),.exit id k rfl,?_⟩
 cases c with
 | exit id'=>cases hc;exact .refl _ _
 | region id ops d=>simp only [yF] at hc;split at hc<;>cases hc
 | rangeFunc f ps a b=>simp only [yF] at hc;split at hc<;>cases hc
 | scope a=>exact absurd rfl (hns a)
 | _=>cases hc
theorem awp_seq {a b:ACode} (h:AWP E n N a F H (fun e F' H'=>match e with | .normal=>AWP E n N b F' H' Q | e=>Q e F' H')):AWP E n N (.seq a b) F H Q:=by
 refine xH fun c hc hns K w tmps T rs k cs h1 h2 h3 h4=>?_
 cases c with
 | seq x y =>
  simp only [yF,ACode.seq.injEq] at hc
  obtain ⟨e,F1,H1,K1,w1,t1,nw1,todo1,q1,a1,a2,a3,a4,a5,a6,a7⟩:=h x hc.1 K w tmps T rs (.code y :: k) cs h1 h2 h3 h4
  cases e with
  | normal =>
   cases a6
   obtain ⟨e2,F2,H2,K2,w2,t2,nw2,todo2,q2,b1,b2,b3,b4,b5,b6,b7⟩:=q1 y hc.2 K1 w1 t1 T (nw1++rs) k cs a1 a2 a3.len a4
   refine ⟨e2,F2,H2,K2,w2,t2,nw2++nw1,todo2,q2,b1,b2,a3.trans b3,by rw [List.append_assoc];exact b4,fun r hr=>?_,b6,.head st_seq (a7.trans (by rw [List.append_assoc];exact b7))⟩
   rcases List.mem_append.1 hr with hr | hr
   · exact Nat.le_trans a3.size (b5 r hr)
   · exact a5 r hr
  | exit id=>exact ⟨.exit id,F1,H1,K1,w1,t1,nw1,todo1,q1,a1,a2,a3,a4,a5,a6.pass (fun _=>rfl) (by simp),.head st_seq a7⟩
  | ret=>exact ⟨.ret,F1,H1,K1,w1,t1,nw1,todo1,q1,a1,a2,a3,a4,a5,a6.pass (fun _=>rfl) (by simp),.head st_seq a7⟩
 | region id ops d=>simp only [yF] at hc;split at hc<;>cases hc
 | rangeFunc f ps a b=>simp only [yF] at hc;split at hc<;>cases hc
 | scope a=>exact absurd rfl (hns a)
 | _=>cases hc
theorem awp_cond {c:Opd} {a b:ACode} {t:Bool} (hc:c.ev E.G F=.val (.bool t)) (h:AWP E n N (if t then a else b) F H Q):AWP E n N (.cond c a b) F H Q:=by
 refine xH fun c' hc' hns K w tmps T rs k cs h1 h2 h3 h4=>?_
 cases c' with
 | cond x y z =>
  simp only [yF,ACode.cond.injEq] at hc'
  obtain ⟨rfl,e1,e2⟩:=hc'
  have hops:=tx h1 h2 (ρ:=(T.fr tmps (rs.map xe) (.code (.cond x y z) :: k)).eval) (fun x=>Fc.eval_fr _ _ _ _ x)
  have hx:=hops x
  rw [hc] at hx
  have hx:=zM hx
  obtain ⟨e,F1,H1,K1,w1,t1,nw1,todo1,q1,a1,a2,a3,a4,a5,a6,a7⟩:=h (if t then y else z) (by cases t<;>simp [e1,e2]) K w tmps T rs k cs h1 h2 h3 h4
  exact ⟨e,F1,H1,K1,w1,t1,nw1,todo1,q1,a1,a2,a3,a4,a5,a6,.head (st_cond hx) a7⟩
 | region id ops d=>simp only [yF] at hc';split at hc'<;>cases hc'
 | rangeFunc f ps a b=>simp only [yF] at hc';split at hc'<;>cases hc'
 | scope a=>exact absurd rfl (hns a)
 | _=>cases hc'
theorem awp_block {id:Nat} {a:ACode} (h:AWP E n N a F H (fun e F' H'=>match e with | .exit i=>if i=id then Q .normal F' H' else Q (.exit i) F' H' | e=>Q e F' H')):AWP E n N (.block id a) F H Q:=by
 refine xH fun c hc hns K w tmps T rs k cs h1 h2 h3 h4=>?_
 cases c with
 | block id' x =>
  simp only [yF,ACode.block.injEq] at hc
  obtain ⟨rfl,hx⟩:=hc
  obtain ⟨e,F1,H1,K1,w1,t1,nw1,todo1,q1,a1,a2,a3,a4,a5,a6,a7⟩:=h x hx K w tmps T rs (.inBlock id' :: k) cs h1 h2 h3 h4
  cases e with
  | normal=>cases a6;exact ⟨.normal,F1,H1,K1,w1,t1,nw1,k,q1,a1,a2,a3,a4,a5,.normal,.head st_block (a7.trans (.one st_inBlock))⟩
  | ret=>exact ⟨.ret,F1,H1,K1,w1,t1,nw1,todo1,q1,a1,a2,a3,a4,a5,(by cases a6 with | ret k'=>exact .ret k'),.head st_block a7⟩
  | exit i =>
   cases a6 with
   | exit _ k' hk =>
    dsimp only at q1
    by_cases hi:i=id'
    · rw [if_pos hi] at q1
      exact ⟨.normal,F1,H1,K1,w1,t1,nw1,k,q1,a1,a2,a3,a4,a5,.normal,.head st_block (a7.trans (.one (st_exit (by rw [hk];simp [exitTo,hi]))))⟩
    · rw [if_neg hi] at q1
      have hne:exitTo i (.inBlock id' :: k)=exitTo i k:=by
       have:(id' == i)=false:=by simp;exact fun h=>hi h.symm
       simp [exitTo,this]
      exact ⟨.exit i,F1,H1,K1,w1,t1,nw1,_,q1,a1,a2,a3,a4,a5,.exit i k' (hk.trans hne),.head st_block a7⟩
 | region id ops d=>simp only [yF] at hc;split at hc<;>cases hc
 | rangeFunc f ps a b=>simp only [yF] at hc;split at hc<;>cases hc
 | scope a=>exact absurd rfl (hns a)
 | _=>cases hc
end rules
end Go.Am
end
section
namespace Go.Am
section loops
variable {E:Env} {n N:Nat} {F:AFr} {H:zz} {Q:zL→AFr→zz→Prop}
theorem awp_loop {ι:Type} {a:ACode} (inv:ι→AFr × zz) (μ:ι→Nat) (x0:ι) (h0:Ent E n N F H (inv x0).1 (inv x0).2)
 (round:∀ x,AWP E n N a (inv x).1 (inv x).2 (fun e F' H'=>match e with | .normal=>∃ x',μ x'<μ x∧Ent E n N F' H' (inv x').1 (inv x').2 | e=>Q e F' H')):AWP E n N (.loop a) F H Q:=by
 refine AWP.ent h0 ?_
 generalize hm:μ x0=m
 clear h0
 induction m using Nat.strongRecOn generalizing x0 with
 | _ m ih =>
  refine xH fun c hc hns K w tmps T rs k cs h1 h2 h3 h4=>?_
  cases c with
  | loop x =>
   simp only [yF,ACode.loop.injEq] at hc
   obtain ⟨e,F1,H1,K1,w1,t1,nw1,todo1,q1,a1,a2,a3,a4,a5,a6,a7⟩:=round x0 x hc K w tmps T rs (.inLoop x :: k) cs h1 h2 h3 h4
   cases e with
   | normal =>
    cases a6
    obtain ⟨x',hlt,hent⟩:=q1
    obtain ⟨K2,b1,b2,ev2⟩:=hent K1 w1 t1 a1 a2 a3.len
    have hx:=ih (μ x') (hm ▸ hlt) x' rfl (.loop x) (by simp [yF,hc]) K2 w1 t1 T (nw1++rs) k cs b1 b2 ev2.len (a4.ev ev2)
    obtain ⟨e3,F3,H3,K3,w3,t3,nw3,todo3,q3,c1,c2,c3,c4,c5,c6,c7⟩:=hx
    refine ⟨e3,F3,H3,K3,w3,t3,nw3++nw1,todo3,q3,c1,c2,(a3.trans ev2).trans c3,by rw [List.append_assoc];exact c4,fun r hr=>?_,c6,?_⟩
    · rcases List.mem_append.1 hr with hr | hr
      · exact Nat.le_trans a3.size (c5 r hr)
      · exact a5 r hr
    · rw [List.append_assoc]
      -- the head of the loop is reached by one step from either side
      have hhead:Steps E.P (lone (T.fr t1 ((nw1++rs).map xe) (.code x :: .inLoop x :: k)) cs w1) (lone (T.fr t3 ((nw3++(nw1++rs)).map xe) todo3) cs w3):=by
       obtain ⟨m3,hm3⟩:=c7
       cases m3 with
       | zero =>
        simp only [runN] at hm3
        simp only [Stepped.next.injEq] at hm3
        -- the loop's own head cannot be the end: the end's item list is an exit's
        cases c6 with
        | normal=>
         have:=congrArg (fun m=>(m.gs[0]?).map fun g=>g.frame.todo.length) hm3
         simp [lone,Fc.fr] at this
        | exit id k' h =>
         have:=congrArg (fun m=>(m.gs[0]?).map fun g=>g.frame.todo.head?) hm3
         simp [lone,Fc.fr] at this
        | ret k' =>
         have:=congrArg (fun m=>(m.gs[0]?).map fun g=>g.frame.todo.head?) hm3
         simp [lone,Fc.fr] at this
       | succ m3 =>
        simp only [runN,st_loop] at hm3
        exact ⟨m3,hm3⟩
      exact .head st_loop (a7.trans (.head st_inLoop hhead))
   | exit id=>exact ⟨.exit id,F1,H1,K1,w1,t1,nw1,todo1,q1,a1,a2,a3,a4,a5,a6.pass (fun _=>rfl) (by simp),.head st_loop a7⟩
   | ret=>exact ⟨.ret,F1,H1,K1,w1,t1,nw1,todo1,q1,a1,a2,a3,a4,a5,a6.pass (fun _=>rfl) (by simp),.head st_loop a7⟩
  | region id ops d=>simp only [yF] at hc;split at hc<;>cases hc
  | rangeFunc f ps a b=>simp only [yF] at hc;split at hc<;>cases hc
  | scope a=>exact absurd rfl (hns a)
  | _=>cases hc
end loops
def AOps (E:Env) (n N:Nat) (aops:List AOper) (F:AFr) (H:zz) (Q:AFr→zz→Prop):Prop :=
 ∀ (ops:Array Oper) (l:List Nat),l.map (fun i=>(ops[i]?).map (zI E.P n ops))=aops.map some→∀ K w tmps (T:Fc) ds k cs,HRep E K w H→vi n K H.length w F tmps→N≤H.length →
  ∃ F' H' K' w' tmps',Q F' H'∧HRep E K' w' H'∧vi n K' H'.length w' F' tmps'∧Ev N K H w K' H' w' ∧
   Steps E.P (lone (T.fr tmps ds (.inRegion ops l :: k)) cs w) (lone (T.fr tmps' ds (.inRegion ops [] :: k)) cs w')
def zH (F:AFr):Option (Nat × Bool)→Option Bool
 | none=>some true
 | some (d,b)=>match F.get d with
  | .val (.bool t)=>some (t == b)
  | _=>none
section ops
variable {E:Env} {n N:Nat} {F:AFr} {H:zz} {Q:AFr→zz→Prop}
theorem awp_reg {ops:List AOper} {Q:zL→AFr→zz→Prop} (h:AOps E n N ops F H (Q .normal)):AWP E n N (.reg ops) F H Q:=by
 refine xH fun c hc hns K w tmps T rs k cs h1 h2 h3 h4=>?_
 cases c with
 | region id os d =>
  simp only [yF] at hc
  split at hc
  · cases hc
  · rename_i hd
    simp only [ACode.reg.injEq] at hc
    have hd:d=false:=by cases d<;>first | rfl | exact absurd rfl hd
    subst hd
    have hl:(List.range os.size).map (fun i=>(os[i]?).map (zI E.P n os))=ops.map some:=by
     rw [← hc]
     apply List.ext_getElem?
     intro i
     by_cases hi:i<os.size
     · simp [hi]
     · simp [hi]
    obtain ⟨F1,H1,K1,w1,t1,q,a1,a2,a3,a4⟩:=h os (List.range os.size) hl K w tmps T (rs.map xe) k cs h1 h2 h3
    exact ⟨.normal,F1,H1,K1,w1,t1,[],k,q,a1,a2,a3,h4.ev a3,(fun r hr=>by cases hr),.normal,.head st_region (a4.trans (.one st_region_end))⟩
 | rangeFunc f ps a b=>simp only [yF] at hc;split at hc<;>cases hc
 | scope a=>exact absurd rfl (hns a)
 | _=>cases hc
theorem aops_nil (h:Q F H):AOps E n N [] F H Q:=by
 intro ops l hl K w tmps T ds k cs h1 h2 h3
 cases l with
 | cons i r=>simp at hl
 | nil=>exact ⟨F,H,K,w,tmps,h,h1,h2,Ev.refl _ _ _ _ h3,.refl _ _⟩
theorem yH (P:Program) (n:Nat) (ops:Array Oper) (o:Oper):(zI P n ops o).dst=o.dst:=by
 unfold zI;split<;>rfl
theorem wx {P:Program} {n:Nat} {ops:Array Oper} {o:Oper} (h:(zI P n ops o).op≠.bad) :
 (zI P n ops o).op=za P o.op∧(∀ d,o.dst=some d→d<n)∧ur ops o.guard=some (zI P n ops o).guard:=by
 unfold zI at h ⊢
 cases hg:ur ops o.guard with
 | none=>simp only [hg] at h;exact absurd rfl h
 | some g =>
  simp only [hg] at h ⊢
  cases hd:o.dst with
  | none=>simp []
  | some d =>
   simp only [hd] at h ⊢
   by_cases hb:Nat.blt d n=true
   · refine ⟨by rw [if_pos hb],fun d' hd'=>?_,trivial⟩
     cases hd';exact Nat.le_of_ble_eq_true hb
   · rw [if_neg hb] at h;exact absurd rfl h
theorem prepOper_guard {P:Program} {n:Nat} {ops:Array Oper} {o:Oper} (h:(zI P n ops o).guard≠none):ur ops o.guard=some (zI P n ops o).guard:=by
 unfold zI at h ⊢
 split
 · rename_i g hg;simp only [hg]
 · rename_i hg;simp only [hg] at h;exact absurd rfl h
theorem wq {K K':Ctx} {M M':Nat} {w w':World} {tmps:Array Value} {v:AV} {y:Value} (m:Mv K M w K' M' w') (h:vi n K M w F tmps) (hv:VRep K' M' w' v y) (d:Option Nat) (hd:(∀ x,d=some x→x<n)∨v=.undef) :
 vi n K' M' w' (F.set d v) (rZ tmps d y):=by
 cases d with
 | none=>exact m.frep h
 | some d =>
  refine ⟨by simp [rZ,h.1],fun t=>?_⟩
  simp only [AFr.set,AFr.get,rZ]
  by_cases e:d=t
  · subst e
    rw [Nat.beq_refl,cond_true]
    rcases hd with hd | rfl
    · have:d<tmps.size:=by rw [h.1];exact hd d rfl
      simp [Array.getD,this];exact hv
    · exact .undef _
  · have hb:Nat.beq d t=false:=by cases hbb:Nat.beq d t with
     | false=>rfl
     | true=>exact absurd (Nat.eq_of_beq_eq_true hbb) e
    rw [hb,cond_false]
    have hg:(tmps.setIfInBounds d y).getD t undef=tmps.getD t undef:=by
     simp only [Array.getD_eq_getD_getElem?,Array.getElem?_setIfInBounds];rw [if_neg e]
    rw [hg];exact m.rep (h.2 t)
theorem wU {K:Ctx} {M:Nat} {w:World} {tmps:Array Value} (hF:vi n K M w F tmps) {P:Program} {ops:Array Oper} {o:Oper} {b:Bool} (hg:ur ops o.guard=some (zI P n ops o).guard) (hw:zH F (zI P n ops o).guard=some b) :
 Region.wanted o (yielded ops tmps)=b:=by
 cases hog:o.guard with
 | none =>
  rw [hog] at hg;simp only [ur,Option.some.injEq] at hg
  rw [← hg] at hw;simp only [zH,Option.some.injEq] at hw;subst hw
  simp [Region.wanted,hog]
 | some jb =>
  obtain ⟨j,want⟩:=jb
  rw [hog] at hg;simp only [ur] at hg
  split at hg
  · rename_i d hd
    simp only [Option.some.injEq] at hg
    rw [← hg] at hw
    simp only [zH] at hw
    split at hw
    · rename_i t ht
      cases hw
      have hr:=hF.2 d
      rw [ht] at hr
      have hr:=zM hr
      have hsome:tmps[d]? = some (.bool t):=by
       cases hx:tmps[d]? with
       | none=>rw [Array.getD_eq_getD_getElem?,hx] at hr;cases hr
       | some x=>rw [Array.getD_eq_getD_getElem?,hx] at hr;simpa using hr
      have hy:yielded ops tmps j=some t:=by simp only [yielded,hd,Option.bind_some,hsome]
      simp only [Region.wanted,hog,hy]
      cases t<;>cases want<;>rfl
    · cases hw
  · cases hg
theorem w8 {P:Program} {o:Oper} (h:za P o.op≠.bad):∀ c,o.op≠.defer c:=fun c hc=>h (by rw [hc];rfl)
theorem wr {ops:Array Oper} {l:List Nat} {a:AOper} {rest:List AOper} (hl:l.map (fun i=>(ops[i]?).map (zI E.P n ops))=(a :: rest).map some) :
 ∃ i l' o,l=i :: l'∧ops[i]? = some o∧zI E.P n ops o=a∧l'.map (fun i=>(ops[i]?).map (zI E.P n ops))=rest.map some:=by
 cases l with
 | nil=>simp at hl
 | cons i l' =>
  simp only [List.map_cons,List.cons.injEq] at hl
  cases ho:ops[i]? with
  | none=>rw [ho] at hl;simp at hl
  | some o=>rw [ho] at hl;simp only [Option.map_some,Option.some.injEq] at hl;exact ⟨i,l',o,rfl,ho,hl.1,hl.2⟩
theorem aops_skip {a:AOper} {rest:List AOper} (hg:zH F a.guard=some false) (h:AOps E n N rest (F.set a.dst .undef) H Q):AOps E n N (a :: rest) F H Q:=by
 intro ops l hl K w tmps T ds k cs h1 h2 h3
 obtain ⟨i,l',o,rfl,ho,rfl,hl'⟩:=wr hl
 have hgn:(zI E.P n ops o).guard≠none:=by intro e;rw [e] at hg;cases hg
 have hw:=wU h2 (prepOper_guard hgn) hg
 have hst:=st_op_skip (P:=E.P) (T:=T) (tmps:=tmps) (ds:=ds) (k:=k) (cs:=cs) (w:=w) (ops:=ops) (i:=i) (rest:=l') (by simp [ho,hw])
 rw [ho] at hst
 have hF:=wq (Ev.mv h1 (Ev.refl H.length K H w (Nat.le_refl _))) h2 (VRep.undef undef) o.dst (.inr rfl)
 rw [yH] at h
 obtain ⟨F',H',K',w',t',q,a1,a2,a3,a4⟩:=h ops l' hl' K w _ T ds k cs h1 hF h3
 exact ⟨F',H',K',w',t',q,a1,a2,a3,.head hst a4⟩
theorem wm {a:AOper} {rest:List AOper} {c:Bool} {v:AV} {H1:zz} (hg:zH F a.guard=some true) (he:zF E.G a.op F H=some (c,v,H1)) (hc:c=true) (h:AOps E n N rest (F.set a.dst v) H1 Q):AOps E n N (a :: rest) F H Q:=by
 intro ops l hl K w tmps T ds k cs h1 h2 h3
 obtain ⟨i,l',o,rfl,ho,rfl,hl'⟩:=wr hl
 subst hc
 have hnb:(zI E.P n ops o).op≠.bad:=by intro e;rw [e] at he;simp [zF,zr,zj] at he
 obtain ⟨e1,e2,e3⟩:=wx hnb
 rw [e1] at he hnb
 have hw:=wU h2 e3 hg
 have hops:=tx h1 h2 (ρ:=(T.fr tmps ds (.inRegion ops (i :: l') :: k)).eval) (fun x=>Fc.eval_fr _ _ _ _ x)
 obtain ⟨y,w1,K1,hr,hv,hh,ev⟩:=evalOp_sound h1 hops he
 have hst:=st_op_value (cs:=cs) ho hw (w8 hnb) hr
 have hF:=wq (Ev.mv h1 ev) h2 hv o.dst (.inl e2)
 rw [yH] at h
 obtain ⟨F',H',K',w',t',q,a1,a2,a3,a4⟩:=h ops l' hl' K1 w1 _ T ds k cs hh hF (Nat.le_trans h3 ev.len)
 exact ⟨F',H',K',w',t',q,a1,a2,(ev.mono h3).trans a3,.head hst a4⟩
def xu (P:Program) (f:FuncId):Prop:=∀ (args:Array Value) (w:World),(callFunc f args).run P w=.ok (.enter f args) w
theorem prepOp_call {P:Program} {op:Op} {f:FuncId} {xs:List Opd} (h:za P op=.call f xs):∃ c,op=.call c∧c.callee=.value (.func f)∧xs=c.args.toList.map opd:=by
 cases op with
 | call c =>
  refine ⟨c,rfl,?_⟩
  obtain ⟨callee,args,ts⟩:=c
  simp only [za] at h
  split at h
  · cases h;exact ⟨rfl,rfl⟩
  · cases h
  · cases h
  · (repeat' split at h)<;>cases h
 | makeFunc fn a b=>cases fn<;>simp only [za] at h<;>(repeat' split at h)<;>cases h
 | makeMap t r=>cases r<;>simp [za] at h
 | _=>simp only [za] at h<;>(repeat' split at h)<;>cases h
theorem prepOp_callv {P:Program} {op:Op} {x:Opd} {xs:List Opd} (h:za P op=.callv x xs):∃ c y,op=.call c∧c.callee=.value y∧x=opd y∧xs=c.args.toList.map opd:=by
 cases op with
 | call c =>
  refine ⟨c,?_⟩
  obtain ⟨callee,args,ts⟩:=c
  simp only [za] at h
  split at h
  · cases h
  · rename_i y _;cases h;exact ⟨y,rfl,rfl,rfl,rfl⟩
  · cases h
  · (repeat' split at h)<;>cases h
 | makeFunc fn a b=>cases fn<;>simp only [za] at h<;>(repeat' split at h)<;>cases h
 | makeMap t r=>cases r<;>simp [za] at h
 | _=>simp only [za] at h<;>(repeat' split at h)<;>cases h
theorem calls_steps {P:Program} {f:FuncId} {args:Array Value} {w:World} {R:Value→World→Prop} (h:Calls P f args w fun e w'=>∃ y,e=.returned y∧R y w') (c:Frame) (cs:List Frame) :
 ∃ y w',R y w'∧Steps P (lone (Frame.enter P f args .normal) (c :: cs) w) (lone (c.finish y) cs w'):=by
 obtain ⟨e,w',fr,⟨y,rfl,hR⟩,hc,hf,hl⟩:=h (c :: cs)
 exact ⟨y,w',hR,Steps.trans hc (.one (step_leave_returned hl))⟩
theorem vG {a:AOper} {rest:List AOper} {f:FuncId} {xs:List Opd} {args:List AV} {R:AV→zz→Prop} (hg:zH F a.guard=some true) (ho':a.op=.call f xs) (hargs:xs.map (·.ev E.G F)=args) (hen:xu E.P f) (hc:ACall E f args H R)
 (h:∀ v H1,R v H1→AOps E n N rest (F.set a.dst v) H1 Q):AOps E n N (a :: rest) F H Q:=by
 intro ops l hl K w tmps T ds k cs h1 h2 h3
 obtain ⟨i,l',o,rfl,ho,rfl,hl'⟩:=wr hl
 have hnb:(zI E.P n ops o).op≠.bad:=by rw [ho'];intro e;cases e
 obtain ⟨e1,e2,e3⟩:=wx hnb
 rw [e1] at ho' hnb
 have hw:=wU h2 e3 hg
 have hops:=tx h1 h2 (ρ:=(T.fr tmps ds (.inRegion ops (i :: l') :: k)).eval) (fun x=>Fc.eval_fr _ _ _ _ x)
 obtain ⟨c,hop,hcal,rfl⟩:=prepOp_call ho'
 have hvs:VReps K H.length w args (c.args.toList.map (T.fr tmps ds (.inRegion ops (i :: l') :: k)).eval):=by
  rw [← hargs]
  refine ⟨by simp,?_⟩
  have:=tY hops (xs:=c.args.toList)
  intro j x y hx hy
  exact this j x y (by simpa using hx) hy
 have hrun:(execOp (T.fr tmps ds (.inRegion ops (i :: l') :: k)).eval o).run E.P w=.ok (.enter f (c.args.toList.map (T.fr tmps ds (.inRegion ops (i :: l') :: k)).eval).toArray) w:=by
  have ha:(c.args.toList.map (T.fr tmps ds (.inRegion ops (i :: l') :: k)).eval).toArray=c.args.map (T.fr tmps ds (.inRegion ops (i :: l') :: k)).eval:=Array.ext' (by simp)
  obtain ⟨callee,args',ts⟩:=c
  dsimp only at hcal ha
  subst hcal
  rw [ha]
  have hef:(T.fr tmps ds (.inRegion ops (i :: l') :: k)).eval (.func f)=.func (.func f) #[] #[]:=rfl
  simp [execOp,hop,resolve,hef,Deferred.ofValue,invoke]
  exact hen _ _
 have hst:=st_op_enter (cs:=cs) ho hw (w8 hnb) hrun
 have hcalls:=(hc K w _ h1 hvs).mono (R':=fun e w'=>∃ y,e=.returned y∧∃ v H' K',R v H'∧HRep E K' w' H'∧VRep K' H'.length w' v y∧Ev H.length K H w K' H' w') (by
  rintro e w' ⟨v,y,H',K',rfl,h⟩;exact ⟨y,rfl,v,H',K',h⟩)
 obtain ⟨y,w1,⟨v,H1,K1,hR,hh,hv,ev⟩,hs⟩:=calls_steps hcalls (T.fr tmps ds (.inRegion ops (i :: l') :: k)) cs
 have hfin:=uY (T:=T) (tmps:=tmps) (ds:=ds) (k:=k) (ops:=ops) (i:=i) (rest:=l') y
 rw [ho] at hfin;simp only [Option.bind_some] at hfin
 rw [hfin] at hs
 have hF:=wq (Ev.mv h1 ev) h2 hv o.dst (.inl e2)
 have h:=h v H1 hR
 rw [yH] at h
 obtain ⟨F',H',K',w',t',q,a1,a2,a3,a4⟩:=h ops l' hl' K1 w1 _ T ds k cs hh hF (Nat.le_trans h3 ev.len)
 exact ⟨F',H',K',w',t',q,a1,a2,(ev.mono h3).trans a3,.head hst (hs.trans a4)⟩
end ops
end Go.Am
end
section
namespace Go.Am
def AYield (E:Env) (l:Nat) (args:List AV) (H:zz) (R:AV→zz→Prop):Prop :=
 ∀ K w ys blk base,HRep E K w H→VReps K H.length w args ys→l<H.length→K.γ l=some (blk,base) →
  ∃ r:Loop,w.heap[blk]? = some (.loop r)∧ys.length=r.params.size∧∀ (c:Frame) cs,∃ v y H' K' w',R v H'∧HRep E K' w' H'∧VRep K' H'.length w' v y∧Ev H.length K H w K' H' w' ∧
   Steps E.P (lone (Frame.round blk r.fn ((r.params.zip ys.toArray).foldl (fun tmps (t,a)=>tmps.setIfInBounds t a) r.tmps) r.assign r.body .normal) (c :: cs) w) (lone (c.finish y) cs w')
def AYieldX (E:Env) (blk:Nat) (args:List AV) (H:zz) (R:AV→zz→Prop):Prop :=
 ∀ K w ys,HRep E K w H→VReps K H.length w args ys →
  ∃ r:Loop,w.heap[blk]? = some (.loop r)∧ys.length=r.params.size∧∀ (c:Frame) cs,∃ v y H' K' w',R v H'∧HRep E K' w' H'∧VRep K' H'.length w' v y∧Ev H.length K H w K' H' w' ∧
   Steps E.P (lone (Frame.round blk r.fn ((r.params.zip ys.toArray).foldl (fun tmps (t,a)=>tmps.setIfInBounds t a) r.tmps) r.assign r.body .normal) (c :: cs) w) (lone (c.finish y) cs w')
def ACallV (E:Env) (fv:AV) (args:List AV) (H:zz) (R:AV→zz→Prop):Prop :=
 match fv with
 | .fn f cs=>xu E.P f∧ACall E f (args++cs) H R
 | .yld l=>AYield E l args H R
 | .val (.func (.yield blk) p q)=>p = #[]∧q = #[]∧AYieldX E blk args H R
 | _=>False
theorem ACallV.mono {E:Env} {fv:AV} {args:List AV} {H:zz} {R R':AV→zz→Prop} (h:ACallV E fv args H R) (hr:∀ v H',R v H'→R' v H'):ACallV E fv args H R':=by
 unfold ACallV at h ⊢
 split at h
 · exact ⟨h.1,h.2.mono hr⟩
 · intro K w ys blk base h1 h2 h3 h4
   obtain ⟨r,e1,e2,e3⟩:=h K w ys blk base h1 h2 h3 h4
   refine ⟨r,e1,e2,fun c cs=>?_⟩
   obtain ⟨v,y,H',K',w',a,b⟩:=e3 c cs
   exact ⟨v,y,H',K',w',hr _ _ a,b⟩
 · refine ⟨h.1,h.2.1,fun K w ys h1 h2=>?_⟩
   obtain ⟨r,e1,e2,e3⟩:=h.2.2 K w ys h1 h2
   refine ⟨r,e1,e2,fun c cs=>?_⟩
   obtain ⟨v,y,H',K',w',a,b⟩:=e3 c cs
   exact ⟨v,y,H',K',w',hr _ _ a,b⟩
 · exact h.elim
theorem VReps.append {K:Ctx} {M:Nat} {w:World} {a b:List AV} {x y:List Value} (h1:VReps K M w a x) (h2:VReps K M w b y):VReps K M w (a++b) (x++y):=by
 refine ⟨by simp [h1.1,h2.1],fun i u v hu hv=>?_⟩
 rcases Nat.lt_or_ge i a.length with hi | hi
 · rw [List.getElem?_append_left hi] at hu
   rw [List.getElem?_append_left (by rw [← h1.1];exact hi)] at hv
   exact h1.2 i u v hu hv
 · rw [List.getElem?_append_right hi] at hu
   rw [List.getElem?_append_right (by rw [← h1.1];exact hi),← h1.1] at hv
   exact h2.2 _ u v hu hv
inductive Went (E:Env) (K:Ctx) (H:zz) (w:World) (R:AV→zz→Prop) (s:Sem Next):Prop
 | enter (f:FuncId) (vs:Array Value) (hr:s.run E.P w=.ok (.enter f vs) w) (h:∀ (c:Frame) cs,∃ v y H' K' w',R v H'∧HRep E K' w' H'∧VRep K' H'.length w' v y∧Ev H.length K H w K' H' w' ∧
  Steps E.P (lone (Frame.enter E.P f vs .normal) (c :: cs) w) (lone (c.finish y) cs w'))
 | round (l f:Nat) (ts:Array Value) (a b:Code) (hr:s.run E.P w=.ok (.round l f ts a b) w) (h:∀ (c:Frame) cs,∃ v y H' K' w',R v H'∧HRep E K' w' H'∧VRep K' H'.length w' v y∧Ev H.length K H w K' H' w' ∧
  Steps E.P (lone (Frame.round l f ts a b .normal) (c :: cs) w) (lone (c.finish y) cs w'))
theorem acall_steps {E:Env} {f:FuncId} {args:List AV} {H:zz} {R:AV→zz→Prop} (hc:ACall E f args H R) {K:Ctx} {w:World} {ys:List Value} (h1:HRep E K w H) (h2:VReps K H.length w args ys) (c:Frame) (cs:List Frame) :
 ∃ v y H' K' w',R v H'∧HRep E K' w' H'∧VRep K' H'.length w' v y∧Ev H.length K H w K' H' w'∧Steps E.P (lone (Frame.enter E.P f ys.toArray .normal) (c :: cs) w) (lone (c.finish y) cs w'):=by
 have hcalls:=(hc K w _ h1 h2).mono (R':=fun e w'=>∃ y,e=.returned y∧∃ v H' K',R v H'∧HRep E K' w' H'∧VRep K' H'.length w' v y∧Ev H.length K H w K' H' w') (by
  rintro e w' ⟨v,y,H',K',rfl,h⟩;exact ⟨y,rfl,v,H',K',h⟩)
 obtain ⟨y,w1,⟨v,H1,K1,hR,hh,hv,ev⟩,hs⟩:=calls_steps hcalls c cs
 exact ⟨v,y,H1,K1,w1,hR,hh,hv,ev,hs⟩
theorem callv_went {E:Env} {fv:AV} {args:List AV} {H:zz} {R:AV→zz→Prop} (hc:ACallV E fv args H R) {K:Ctx} {w:World} {yf:Value} {ys:List Value} (h1:HRep E K w H) (hf:VRep K H.length w fv yf) (h2:VReps K H.length w args ys)
 {s:Sem Next} (hs:s=(do let d ← Deferred.ofValue yf ys.toArray;invoke d.target d.args)):Went E K H w R s:=by
 subst hs
 unfold ACallV at hc
 split at hc
 · rename_i f cs
   cases hf with
   | fn _ _ zs hl hh =>
    have hvs:VReps K H.length w (args++cs) (ys++zs):=h2.append ⟨hl,hh⟩
    refine .enter f (ys++zs).toArray ?_ (fun c cs'=>acall_steps hc.2 h1 hvs c cs')
    have:=hc.1 (ys.toArray++zs.toArray) w
    simp only [Deferred.ofValue,Sem.run_bind,Sem.run_pure,Result.andThen_ok,invoke,Array.empty_append]
    rw [this];simp
 · rename_i l
   cases hf with
   | yld _ blk base hM hg =>
    obtain ⟨r,e1,e2,e3⟩:=hc K w ys blk base h1 h2 hM hg
    refine .round blk r.fn _ r.assign r.body ?_ e3
    have e2':¬ (ys.toArray.size≠r.params.size):=by simp [e2]
    simp [Deferred.ofValue,invoke,Instr.yield,Instr.getLoop,getObj,Sem.run,e1,e2]
 · rename_i blk p q
   obtain ⟨rfl,rfl,hc⟩:=hc
   cases hf with
   | val _ _ =>
    obtain ⟨r,e1,e2,e3⟩:=hc K w ys h1 h2
    refine .round blk r.fn _ r.assign r.body ?_ e3
    simp [Deferred.ofValue,invoke,Instr.yield,Instr.getLoop,getObj,Sem.run,e1,e2]
 · exact hc.elim
section ops
variable {E:Env} {n N:Nat} {F:AFr} {H:zz} {Q:AFr→zz→Prop}
theorem aops_callv {a:AOper} {rest:List AOper} {x:Opd} {xs:List Opd} {fv:AV} {args:List AV} {R:AV→zz→Prop} (hg:zH F a.guard=some true) (ho':a.op=.callv x xs) (hfv:x.ev E.G F=fv) (hargs:xs.map (·.ev E.G F)=args) (hc:ACallV E fv args H R)
 (h:∀ v H1,R v H1→AOps E n N rest (F.set a.dst v) H1 Q):AOps E n N (a :: rest) F H Q:=by
 intro ops l hl K w tmps T ds k cs h1 h2 h3
 obtain ⟨i,l',o,rfl,ho,rfl,hl'⟩:=wr hl
 have hnb:(zI E.P n ops o).op≠.bad:=by rw [ho'];intro e;cases e
 obtain ⟨e1,e2,e3⟩:=wx hnb
 rw [e1] at ho' hnb
 have hw:=wU h2 e3 hg
 have hops:=tx h1 h2 (ρ:=(T.fr tmps ds (.inRegion ops (i :: l') :: k)).eval) (fun x=>Fc.eval_fr _ _ _ _ x)
 obtain ⟨c,yo,hop,hcal,rfl,rfl⟩:=prepOp_callv ho'
 have hvs:VReps K H.length w args (c.args.toList.map (T.fr tmps ds (.inRegion ops (i :: l') :: k)).eval):=by
  rw [← hargs]
  refine ⟨by simp,?_⟩
  have:=tY hops (xs:=c.args.toList)
  intro j x y hx hy
  exact this j x y (by simpa using hx) hy
 have hyf:=hops yo
 rw [hfv] at hyf
 have hrun:execOp (T.fr tmps ds (.inRegion ops (i :: l') :: k)).eval o=(do let d ← Deferred.ofValue ((T.fr tmps ds (.inRegion ops (i :: l') :: k)).eval yo) (c.args.toList.map (T.fr tmps ds (.inRegion ops (i :: l') :: k)).eval).toArray;invoke d.target d.args):=by
  have ha:(c.args.toList.map (T.fr tmps ds (.inRegion ops (i :: l') :: k)).eval).toArray=c.args.map (T.fr tmps ds (.inRegion ops (i :: l') :: k)).eval:=Array.ext' (by simp)
  obtain ⟨callee,args',ts⟩:=c
  dsimp only at hcal ha
  subst hcal
  rw [ha]
  simp [execOp,hop,resolve]
 have fin:∀ {fr:Frame} {w0:World},step E.P (lone (T.fr tmps ds (.inRegion ops (i :: l') :: k)) cs w)=.next (lone fr (T.fr tmps ds (.inRegion ops (i :: l') :: k) :: cs) w0) →
  (∃ v y H' K' w',R v H'∧HRep E K' w' H'∧VRep K' H'.length w' v y∧Ev H.length K H w K' H' w'∧Steps E.P (lone fr (T.fr tmps ds (.inRegion ops (i :: l') :: k) :: cs) w0) (lone ((T.fr tmps ds (.inRegion ops (i :: l') :: k)).finish y) cs w')) →
  ∃ F' H' K' w' tmps',Q F' H'∧HRep E K' w' H'∧vi n K' H'.length w' F' tmps'∧Ev N K H w K' H' w'∧Steps E.P (lone (T.fr tmps ds (.inRegion ops (i :: l') :: k)) cs w) (lone (T.fr tmps' ds (.inRegion ops [] :: k)) cs w'):=by
  rintro fr w0 hst ⟨v,y,H1,K1,w1,hR,hh,hv,ev,hs⟩
  have hfin:=uY (T:=T) (tmps:=tmps) (ds:=ds) (k:=k) (ops:=ops) (i:=i) (rest:=l') y
  rw [ho] at hfin;simp only [Option.bind_some] at hfin
  rw [hfin] at hs
  have hF:=wq (Ev.mv h1 ev) h2 hv o.dst (.inl e2)
  have h:=h v H1 hR
  rw [yH] at h
  obtain ⟨F',H',K',w',t',q,a1,a2,a3,a4⟩:=h ops l' hl' K1 w1 _ T ds k cs hh hF (Nat.le_trans h3 ev.len)
  exact ⟨F',H',K',w',t',q,a1,a2,(ev.mono h3).trans a3,.head hst (hs.trans a4)⟩
 cases callv_went hc h1 hyf hvs hrun with
 | enter f vs hr hh=>exact fin (st_op_enter (cs:=cs) ho hw (w8 hnb) hr) (hh _ _)
 | round l f ts a b hr hh=>exact fin (st_op_round (cs:=cs) ho hw (w8 hnb) hr) (hh _ _)
end ops
inductive RV where
 | t (i:Nat)
 | cell (a k:Nat) (agg:Bool)
 deriving Inhabited
def wE (P:Program):ResultVar→Option RV
 | .tmp t=>some (.t t)
 | .cell a t=>(vJ P t).map fun p=>.cell a p.1 p.2
def evRV (F:AFr) (H:zz):RV→Option AV
 | .t i=>some (F.get i)
 | .cell a k agg=>match F.get a with
  | .ptr b off=>match cellsOf H b with
   | some cs=>vm cs off k agg
   | none=>none
  | .iptr cs=>vm cs 0 k agg
  | _=>none
def w7 (F:AFr) (H:zz):List RV→Option (List AV)
 | []=>some []
 | r :: rs=>match evRV F H r,w7 F H rs with
  | some v,some vs=>some (v :: vs)
  | _,_=>none
def wP : List AV→AV
 | [v]=>v
 | vs=>.tup vs
def sW (tmps:Array Value):ResultVar→Sem Value
 | .tmp t=>pure (tmps.getD t undef)
 | .cell a t=>do loadVar t (← asAddr (tmps.getD a undef))
theorem results_eq (fn:Func) (tmps:Array Value):results fn tmps=(do let vs ← fn.results.mapM (sW tmps);pure (if h:vs.size=1 then vs[0] else .tuple vs)):=by
 unfold results
 congr 1
theorem evRV_spec {E:Env} {n:Nat} {K:Ctx} {w:World} {H:zz} {F:AFr} {tmps:Array Value} (h:HRep E K w H) (hF:vi n K H.length w F tmps) {r:ResultVar} {rv:RV} (hp:wE E.P r=some rv) {v:AV} (hv:evRV F H rv=some v) :
 ∃ y,(sW tmps r).run E.P w=.ok y w∧VRep K H.length w v y:=by
 cases r with
 | tmp t=>cases hp;cases hv;exact ⟨_,rfl,hF.2 t⟩
 | cell a t =>
  simp only [wE,Option.map_eq_some_iff] at hp
  obtain ⟨⟨k,agg⟩,hs,rfl⟩:=hp
  simp only [evRV] at hv
  have hr:=hF.2 a
  split at hv
  · rename_i b off e
    rw [e] at hr
    split at hv
    · rename_i cs hb
      obtain ⟨blk,base,hy,hrd,_⟩:=reads_ptr h hr hb
      obtain ⟨z,h1,h2⟩:=vE hs hrd hv
      exact ⟨z,by simp only [sW,hy];simpa [asAddr] using h1,h2⟩
    · cases hv
  · rename_i cs e
    rw [e] at hr
    obtain ⟨blk,off,hy,hrd⟩:=reads_iptr hr
    obtain ⟨z,h1,h2⟩:=vE hs hrd hv
    exact ⟨z,by simp only [sW,hy];simpa [asAddr] using h1,h2⟩
  · cases hv
theorem evRVs_spec {E:Env} {n:Nat} {K:Ctx} {w:World} {H:zz} {F:AFr} {tmps:Array Value} (h:HRep E K w H) (hF:vi n K H.length w F tmps):∀ {rs:List ResultVar} {rvs:List RV},rs.map (wE E.P)=rvs.map some→∀ {vs:List AV},w7 F H rvs=some vs →
 ∃ ys:List Value,(rs.mapM (m:=Sem) (sW tmps)).run E.P w=.ok ys w∧VReps K H.length w vs ys
 | [],[],_,vs,hv=>by simp [w7] at hv;subst hv;exact ⟨[],by simp,rfl,fun i x y hx=>by simp at hx⟩
 | [],_ :: _,h,_,_=>by simp at h
 | _ :: _,[],h,_,_=>by simp at h
 | r :: rs,rv :: rvs,hp,vs,hv=>by
  simp only [List.map_cons,List.cons.injEq] at hp
  simp only [w7] at hv
  split at hv
  · rename_i v vs' e1 e2
    cases hv
    obtain ⟨y,a1,a2⟩:=evRV_spec h hF hp.1 e1
    obtain ⟨ys,b1,b2⟩:=evRVs_spec h hF hp.2 e2
    refine ⟨y :: ys,?_,by simp [b2.1],fun i x z hx hz=>?_⟩
    · simp only [List.mapM_cons,Sem.run_bind,a1,b1,Result.andThen_ok,Sem.run_pure]
    · cases i with
      | zero=>simp at hx hz;subst hx hz;exact a2
      | succ i=>simp at hx hz;exact b2.2 i x z hx hz
  · cases hv
theorem results_run {E:Env} {n:Nat} {K:Ctx} {w:World} {H:zz} {F:AFr} {tmps:Array Value} (h:HRep E K w H) (hF:vi n K H.length w F tmps) {fn:Func} {rvs:List RV} (hp:fn.results.toList.map (wE E.P)=rvs.map some) {vs:List AV} (hv:w7 F H rvs=some vs) :
 ∃ y,(results fn tmps).run E.P w=.ok y w∧VRep K H.length w (wP vs) y:=by
 obtain ⟨ys,h1,h2⟩:=evRVs_spec h hF hp hv
 have hm:(fn.results.mapM (m:=Sem) (sW tmps)).run E.P w=.ok ys.toArray w:=by
  rw [Array.mapM_eq_mapM_toList]
  simp only [Sem.run_map,h1,Result.andThen_ok]
 rw [results_eq,Sem.run_bind,hm]
 simp only [Result.andThen_ok,Sem.run_pure]
 rcases ys with _ | ⟨y,_ | ⟨z,r⟩⟩
 · rcases vs with _ | ⟨v,r⟩
   · exact ⟨_,rfl,.tup [] [] rfl (fun i c y hc=>by simp at hc)⟩
   · have:=h2.1;simp at this
 · rcases vs with _ | ⟨v,_ | ⟨v2,r⟩⟩
   · have:=h2.1;simp at this
   · exact ⟨y,by simp,h2.2 0 v y rfl rfl⟩
   · have:=h2.1;simp at this
 · rcases vs with _ | ⟨v,_ | ⟨v2,r2⟩⟩
   · have:=h2.1;simp at this
   · have:=h2.1;simp at this
   · refine ⟨.tuple (y :: z :: r).toArray,by simp,.tup _ _ h2.1 h2.2⟩
theorem HRep.private' {E:Env} {K:Ctx} {w w':World} {H:zz} (h:HRep E K w H) {r:Nat} {o o':Obj} (ho:w.heap[r]? = some o) (hno:∀ c ty fz,o≠.cells c ty fz) (hnl:∀ l,o≠.loop l) (hr:¬ yb K H r) (hi:¬ K.I r)
 (hw:w' = { w with heap:=w.heap.setIfInBounds r o' }):HRep E K w' H∧∀ (N:Nat) K0 H0 w0,Ev N K0 H0 w0 K H w→w0.heap.size≤r→Ev N K0 H0 w0 K H w':=by
 have hlt:r<w.heap.size:=(Array.getElem?_eq_some_iff.1 ho).1
 have hoth:∀ b,b≠r→w'.heap[b]? = w.heap[b]?:=fun b hb=>by
  subst hw;simp only [Array.getElem?_setIfInBounds];rw [if_neg (fun e=>hb e.symm)]
 have hsz:w'.heap.size=w.heap.size:=by subst hw;simp
 have hcells:∀ (b:Nat) c ty fz,w.heap[b]? = some (.cells c ty fz)→∃ c' fz',w'.heap[b]? = some (.cells c' ty fz')∧c'.size=c.size:=fun b c ty fz hb=>by
  have:b≠r:=by rintro rfl;rw [ho] at hb;exact hno _ _ _ (Option.some.inj hb)
  exact ⟨c,fz,(hoth b this).trans hb,rfl⟩
 have hloops:∀ (b:Nat) l,w.heap[b]? = some (.loop l)→∃ l',w'.heap[b]? = some (.loop l'):=fun b l hb=>by
  have:b≠r:=by rintro rfl;rw [ho] at hb;exact hnl _ (Option.some.inj hb)
  exact ⟨l,(hoth b this).trans hb⟩
 have hm:Mv K H.length w K H.length w':=⟨fun _ _=>rfl,Nat.le_refl _,fun _ h=>h,fun b hb o=>yI (hoth b (fun e=>hi (e ▸ hb))) o,hcells⟩
 refine ⟨⟨fun b ob hb=>hm.orep (h.obj b ob hb) (fun blk base e hl=>hoth blk (fun e'=>hr (e' ▸ .inl ⟨b,ob,base,hb,hl,e⟩))),h.inj,h.disj,fun b hb=>by rw [hsz];exact h.low b hb,fun g=>?_,
  h.x.stay rfl (fun _ h=>h) (fun b hb=>hoth b (fun e=>hb.elim (fun hb=>hr (.inr (e ▸ hb))) (fun hb=>hi (e ▸ hb)))) hcells (Nat.le_of_eq hsz.symm) (fun _ h=>.inl h) (fun b j st hb=>⟨b,hb⟩)⟩,fun N K0 H0 w0 ev hr0=>?_⟩
 · exact VRep.mono (K:=K) (K':=K) (fun b hb=>absurd hb (Nat.not_lt_zero _)) (Nat.le_refl _) (fun _ h=>h) hm.wc hm.cells (h.glob g)
 · refine { ev with frame:=fun b hb hn=>(hoth b (by omega)).trans (ev.frame b hb hn),size:=by rw [hsz];exact ev.size,cells:=fun b c ty fz hb=>?_,loops:=fun b l hb=>?_,os:=by rw [← ev.os];subst hw;rfl,out:=by rw [← ev.out];subst hw;rfl }
   · obtain ⟨c1,fz1,e1,e2⟩:=ev.cells b c ty fz hb
     obtain ⟨c2,fz2,e3,e4⟩:=hcells b c1 ty fz1 e1
     exact ⟨c2,fz2,e3,e4.trans e2⟩
   · obtain ⟨l1,e1⟩:=ev.loops b l hb
     exact hloops b l1 e1
end Go.Am
end
section
namespace Go.Am
def wL : Nat→List AV→AFr
 | _,[]=>[]
 | i,x :: r=>(i,x) :: wL (i+1) r
theorem startF_get : ∀ (xs:List AV) (i t:Nat),(wL i xs).get t=if i≤t then (xs[t - i]?).getD .undef else .undef
 | [],i,t=>by simp [wL,AFr.get]
 | x :: r,i,t=>by
  simp only [wL,AFr.get]
  by_cases e:i=t
  · subst e;simp [Nat.beq_refl]
  · have hb:Nat.beq i t=false:=by cases hbb:Nat.beq i t with
     | false=>rfl
     | true=>exact absurd (Nat.eq_of_beq_eq_true hbb) e
    rw [hb,cond_false,startF_get r (i+1) t]
    by_cases h:i+1≤t
    · rw [if_pos h,if_pos (by omega),show t - i=(t - (i+1))+1 by omega,List.getElem?_cons_succ]
    · rw [if_neg h,if_neg (by omega)]
theorem startF_rep {K:Ctx} {M n:Nat} {w:World} {xs:List AV} {ys:List Value} (h:VReps K M w xs ys) (hn:xs.length≤n):vi n K M w (wL 0 xs) (ys.toArray++Array.replicate (n - ys.toArray.size) undef):=by
 refine ⟨by simp [← h.1];omega,fun t=>?_⟩
 rw [startF_get]
 simp only [Nat.zero_le,if_true,Nat.sub_zero]
 rcases Nat.lt_or_ge t xs.length with ht | ht
 · have hy:t<ys.length:=by rw [← h.1];exact ht
   rw [List.getElem?_eq_getElem ht]
   have e:(ys.toArray++Array.replicate (n - ys.toArray.size) undef).getD t undef=ys[t]:=by
    simp [Array.getD_eq_getD_getElem?,Array.getElem?_append,hy]
   rw [e]
   exact h.2 t _ _ (List.getElem?_eq_getElem ht) (List.getElem?_eq_getElem hy)
 · rw [List.getElem?_eq_none ht];exact .undef _
theorem st_end {P:Program} {T:Fc} (hT:T.round=none) {tmps:Array Value} {ds:List Deferred} {cs:List Frame} {w:World}:step P (lone (T.fr tmps ds []) cs w)=.next (lone { T.fr tmps ds [] with mode:=.returning } cs w) :=
 step_lone_go (by simp [stepG,stepG.exec,Fc.fr,hT])
theorem st_ret {P:Program} {T:Fc} (hT:T.round=none) {tmps:Array Value} {ds:List Deferred} {k:List Item} {cs:List Frame} {w:World} :
 step P (lone (T.fr tmps ds (.code .ret :: k)) cs w)=.next (lone { T.fr tmps ds (.code .ret :: k) with mode:=.returning } cs w) :=
 step_lone_go (by simp [stepG,stepG.exec,Fc.fr,hT])
theorem st_unmark {P:Program} {fr:Frame} {r:Nat} {ds:List Deferred} {cs:List Frame} {w:World} (hm:fr.mode=.returning) (hd:fr.defers=xe r :: ds) (hr:w.heap[r]? = some (.deferred (some []))) :
 step P (lone fr cs w)=.next (lone { fr with defers:=ds } cs { w with heap:=w.heap.setIfInBounds r (.deferred none) }):=by
 refine step_lone_go ?_
 have hrun:(Instr.takeDeferred r).run P w=.ok [] { w with heap:=w.heap.setIfInBounds r (.deferred none) }:=by
  simp [Instr.takeDeferred,getObj,setObj,Sem.run,hr,bind,Sem.bind,pure]
 simp [stepG,unwind,hm,hd,xe,hrun]
theorem unmark_all {E:Env} {K:Ctx} {H:zz}:∀ (rs:List Nat) (fr:Frame) (cs:List Frame) (w:World) (N:Nat) (K0:Ctx) (H0:zz) (w0:World),fr.mode=.returning→fr.defers=rs.map xe→rs.Nodup →
 (∀ r∈rs,w.heap[r]? = some (.deferred (some []))∧¬ yb K H r∧¬ K.I r)→(∀ r∈rs,w0.heap.size≤r)→HRep E K w H→Ev N K0 H0 w0 K H w →
 ∃ w',HRep E K w' H∧Ev N K0 H0 w0 K H w'∧Steps E.P (lone fr cs w) (lone { fr with defers:=[] } cs w')∧Mv K H.length w K H.length w'
 | [],fr,cs,w,N,K0,H0,w0,hm,hd,_,_,_,hh,ev=>⟨w,hh,ev,by
  have:({ fr with defers:=[] }:Frame)=fr:=by cases fr;simp at hd;simp [hd]
  rw [this];exact .refl _ _,⟨fun _ _=>rfl,Nat.le_refl _,fun _ h=>h,fun _ _ _=>rfl,fun b c ty fz h=>⟨c,fz,h,rfl⟩⟩⟩
 | r :: rs,fr,cs,w,N,K0,H0,w0,hm,hd,hnd,hmk,hlow,hh,ev=>by
  obtain ⟨h1,h2,h3⟩:=hmk r List.mem_cons_self
  have hst:=st_unmark (P:=E.P) (cs:=cs) hm (by rw [hd];rfl) h1
  obtain ⟨hh',hev⟩:=hh.private' (o':=.deferred none) h1 (fun c ty fz h=>by cases h) (fun l h=>by cases h) h2 h3 rfl
  have hnr:r∉rs:=(List.nodup_cons.1 hnd).1
  have hoth:∀ b,b≠r→({ w with heap:=w.heap.setIfInBounds r (.deferred none) }:World).heap[b]? = w.heap[b]?:=fun b hb=>by
   simp only [Array.getElem?_setIfInBounds];rw [if_neg (fun e=>hb e.symm)]
  obtain ⟨w',a1,a2,a3,a4⟩:=unmark_all rs { fr with defers:=rs.map xe } cs _ N K0 H0 w0 hm rfl (List.nodup_cons.1 hnd).2
   (fun q hq=>by
    obtain ⟨b1,b2,b3⟩:=hmk q (List.mem_cons_of_mem _ hq)
    exact ⟨(hoth q (fun e=>hnr (e ▸ hq))).trans b1,b2,b3⟩) (fun q hq=>hlow q (List.mem_cons_of_mem _ hq)) hh' (hev N K0 H0 w0 ev (hlow r List.mem_cons_self))
  refine ⟨w',a1,a2,.head hst a3,?_⟩
  have hm1:Mv K H.length w K H.length { w with heap:=w.heap.setIfInBounds r (.deferred none) }:=by
   refine ⟨fun _ _=>rfl,Nat.le_refl _,fun _ h=>h,fun b hb o=>yI (hoth b (fun e=>h3 (e ▸ hb))) o,fun b c ty fz hb=>?_⟩
   have:b≠r:=by rintro rfl;rw [h1] at hb;cases hb
   exact ⟨c,fz,(hoth b this).trans hb,rfl⟩
  refine ⟨fun _ _=>rfl,Nat.le_refl _,fun _ h=>h,fun b hb o=>(a4.wc b hb o).trans (hm1.wc b hb o),fun b c ty fz hb=>?_⟩
  obtain ⟨c1,fz1,e1,e2⟩:=hm1.cells b c ty fz hb
  obtain ⟨c2,fz2,e3,e4⟩:=a4.cells b c1 ty fz1 e1
  exact ⟨c2,fz2,e3,e4.trans e2⟩
theorem acall_body {E:Env} {f:FuncId} {fn:Func} {ac:ACode} {args:List AV} {H:zz} {R:AV→zz→Prop} {rvs:List RV} (hf:E.P.funcs[f]? = some fn) (hb:fn.body.map (yF E.P fn.ntmps)=some ac) (hrv:fn.results.toList.map (wE E.P)=rvs.map some) (hn:args.length≤fn.ntmps)
 (h:AWP E fn.ntmps H.length ac (wL 0 args) H (fun e F' H'=>match e with | .exit _=>False | _=>∃ vs,w7 F' H' rvs=some vs∧R (wP vs) H')):ACall E f args H R:=by
 intro K w ys h1 h2 cs
 obtain ⟨code,hcode,hprep⟩:=Option.map_eq_some_iff.1 hb
 let T:Fc:=⟨f,.normal,none⟩
 have henter:Frame.enter E.P f ys.toArray .normal=T.fr (ys.toArray++Array.replicate (fn.ntmps - ys.toArray.size) undef) [] [.code code]:=by
  simp [Frame.enter,Fc.fr,T,hf,hcode]
 have hF:=startF_rep (n:=fn.ntmps) h2 hn
 obtain ⟨e,F',H',K',w',t',nw,todo,q,a1,a2,a3,a4,a5,a6,a7⟩:=h code hprep K w _ T [] [] cs h1 hF (Nat.le_refl _) ⟨(fun l hl=>by cases hl),List.nodup_nil,(fun r hr=>by cases hr)⟩
 have fin:∀ (fr:Frame),fr = { T.fr t' ((nw++[]).map xe) todo with mode:=.returning }→Steps E.P (lone (T.fr t' ((nw++[]).map xe) todo) cs w') (lone fr cs w')→(∃ vs,w7 F' H' rvs=some vs∧R (wP vs) H') →
  ∃ e' w2 fr2,(fun e w'=>∃ v y H' K',e=.returned y∧R v H'∧HRep E K' w' H'∧VRep K' H'.length w' v y∧Ev H.length K H w K' H' w') e' w2∧Comes E.P (lone (Frame.enter E.P f ys.toArray .normal) cs w) (lone fr2 cs w2) e'∧fr2.fn=f∧fr2.leaving E.P w2 e':=by
  rintro fr rfl hs ⟨vs,hvs,hR⟩
  obtain ⟨w2,b1,b2,b3,b4⟩:=unmark_all nw { T.fr t' ((nw++[]).map xe) todo with mode:=.returning } cs w' H.length K H w rfl (by simp [Fc.fr]) (by simpa using a4.nodup) (fun r hr=>a4.marks r (by simpa using hr)) a5 a1 a3
  obtain ⟨y,c1,c2⟩:=results_run b1 (b4.frep a2) hrv hvs
  refine ⟨.returned y,w2,{ T.fr t' ((nw++[]).map xe) todo with mode:=.returning,defers:=[] },⟨_,y,H',K',rfl,hR,b1,c2,b2⟩,?_,rfl,rfl,rfl,rfl,fn,hf,c1⟩
  rw [henter]
  exact a7.trans (hs.trans b3)
 cases e with
 | exit id=>exact q.elim
 | normal=>cases a6;exact fin _ rfl (.one (st_end rfl)) q
 | ret=>cases a6 with | ret k'=>exact fin _ rfl (.one (st_ret rfl)) q
theorem enters_body {P:Program} {f:FuncId} {fn:Func} (hf:P.funcs[f]? = some fn) (hn:(fn.name == "runtime.NumGoroutine")=false) (hb:fn.body.isNone=false):xu P f:=by
 intro args w
 simp only [callFunc,Sem.run_bind,run_program,Result.andThen_ok,hf,hn,hb,Bool.false_eq_true,if_false,Sem.run_pure]
end Go.Am
end
section
namespace Go.Am
def vM (F:AFr):List Nat→List AV→AFr
 | p :: ps,x :: xs=>vM (F.set (some p) x) ps xs
 | _,_=>F
theorem bindF_rep {K:Ctx} {M n:Nat} {w:World}:∀ (ps:List Nat) (xs:List AV) (ys:List Value) (F:AFr) (tmps:Array Value),vi n K M w F tmps→VReps K M w xs ys→ps.length=xs.length→(∀ p∈ps,p<n) →
 vi n K M w (vM F ps xs) ((ps.zip ys).foldl (fun tmps (p:Nat × Value)=>tmps.setIfInBounds p.1 p.2) tmps)
 | [],[],[],F,tmps,h,_,_,_=>h
 | [],_ :: _,_,_,_,_,_,h,_=>by simp at h
 | _ :: _,[],_,_,_,_,_,h,_=>by simp at h
 | [],[],_ :: _,_,_,_,h,_,_=>by have:=h.1;simp at this
 | p :: ps,x :: xs,[],F,tmps,_,h,_,_=>by have:=h.1;simp at this
 | p :: ps,x :: xs,y :: ys,F,tmps,h,hv,hl,hp=>by
  simp only [vM,List.zip_cons_cons,List.foldl_cons]
  have m:Mv K M w K M w:=⟨fun _ _=>rfl,Nat.le_refl _,fun _ h=>h,fun _ _ _=>rfl,fun b c ty fz h=>⟨c,fz,h,rfl⟩⟩
  refine bindF_rep ps xs ys _ _ (wq m h (hv.2 0 x y rfl rfl) (some p) (.inl fun d hd=>by cases hd;exact hp p List.mem_cons_self)) ⟨by have:=hv.1;simpa using this,fun i a b ha hb=>hv.2 (i+1) a b ha hb⟩ (by simpa using hl) (fun q hq=>hp q (List.mem_cons_of_mem _ hq))
theorem touch_loop (w:World) (blk:Nat) (r r':Loop) (h:w.heap[blk]? = some (.loop r)):Touch blk w { w with heap:=w.heap.setIfInBounds blk (.loop r') } where
 other b hb:=by simp only [Array.getElem?_setIfInBounds];rw [if_neg (fun e=>hb e.symm)]
 size:=by simp
 cells b c ty fz hb:=by
  have hne:b≠blk:=by rintro rfl;rw [h] at hb;cases hb
  exact ⟨c,fz,by simp only [Array.getElem?_setIfInBounds];rw [if_neg (fun e=>hne e.symm)];exact hb,rfl⟩
 loops b l hb:=by
  by_cases e:b=blk
  · subst e
    have hlt:=(Array.getElem?_eq_some_iff.1 h).1
    exact ⟨r',by simp [hlt]⟩
  · exact ⟨l,by simp only [Array.getElem?_setIfInBounds];rw [if_neg (fun e'=>e e'.symm)];exact hb⟩
 os:=rfl
 out:=rfl
theorem HRep.loop {E:Env} {K:Ctx} {w:World} {H:zz} (h:HRep E K w H) {b blk base:Nat} {F:AFr} {n:Nat} {ps:List Nat} {a c:ACode} {st:LoopState} {pd:Option zL} (hb:H[b]? = some (.loop F n ps a c st pd)) (hg:K.γ b=some (blk,base)) :
 ∃ r:Loop,w.heap[blk]? = some (.loop r)∧r.state=st∧sA pd r.pending∧r.params.toList=ps∧(∀ p∈ps,p<n)∧yF E.P n r.assign=a∧yF E.P n r.body=c∧vi n K H.length w F r.tmps:=by
 have:=h.obj b _ hb
 rw [hg] at this
 cases this with
 | loop _ _ _ _ _ _ _ _ _ r h1 h2 h3 h4 h5 h6 h7 h8=>exact ⟨r,h1,h2,h3,h4,h5,h6,h7,h8⟩
theorem HRep.setLoop {E:Env} {K:Ctx} {w:World} {H:zz} (h:HRep E K w H) {b blk base:Nat} {F:AFr} {n:Nat} {ps:List Nat} {a c:ACode} {st st':LoopState} {pd pd':Option zL} (hb:H[b]? = some (.loop F n ps a c st pd)) (hg:K.γ b=some (blk,base))
 {r:Loop} (hr:w.heap[blk]? = some (.loop r)) {j:Option Code} (hj:sA pd' j) :
 HRep E K { w with heap:=w.heap.setIfInBounds blk (.loop { r with state:=st',pending:=j }) } (H.set b (.loop F n ps a c st' pd')) ∧
  Ev H.length K H w K (H.set b (.loop F n ps a c st' pd')) { w with heap:=w.heap.setIfInBounds blk (.loop { r with state:=st',pending:=j }) }:=by
 obtain ⟨r0,h1,h2,h3,h4,h5,h6,h7,h8⟩:=h.loop hb hg
 rw [hr] at h1;cases h1
 refine h.touch hb trivial hg (touch_loop w blk r _ hr) trivial (fun m=>?_)
 have hlt:=(Array.getElem?_eq_some_iff.1 hr).1
 exact .loop _ _ _ _ _ _ _ _ _ { r with state:=st',pending:=j } (by simp [hlt]) rfl hj h4 h5 h6 h7 (m.frep h8)
theorem st_beginRound {P:Program} {T:Fc} {l:Nat} (hT:T.round=some l) {tmps:Array Value} {ds:List Deferred} {k:List Item} {cs:List Frame} {w:World} {r:Loop} (hr:w.heap[l]? = some (.loop r)) (hs:r.state=.ready) :
 step P (lone (T.fr tmps ds (.beginRound :: k)) cs w)=.next (lone (T.fr tmps ds k) cs { w with heap:=w.heap.setIfInBounds l (.loop { r with state:=.busy }) }):=by
 refine step_lone_go ?_
 have hrun:(Instr.beginRound l).run P w=.ok () { w with heap:=w.heap.setIfInBounds l (.loop { r with state:=.busy }) }:=by
  simp [Instr.beginRound,Instr.getLoop,getObj,setObj,Sem.run,hr,hs]
 simp [stepG,stepG.exec,Fc.fr,hT,stepG.apply,hrun,Frame.finish]
theorem uH {P:Program} {T:Fc} {l:Nat} (hT:T.round=some l) (hk:T.kind=.normal) {tmps:Array Value} {ds:List Deferred} {todo:List Item} {c:Frame} {cs:List Frame} {w:World} {r:Loop} (hr:w.heap[l]? = some (.loop r)) (j:Option Code)
 (hj:(todo=[]∧j=none)∨(∃ k,todo=.code .ret :: k∧j=some .ret)∨∃ id k,todo=.code (.exit id) :: k∧exitTo id k=none∧j=some (.exit id)) :
 step P (lone (T.fr tmps ds todo) (c :: cs) w)=.next (lone (c.finish (.bool j.isNone)) cs { w with heap:=w.heap.setIfInBounds l (.loop { r with state:=if j.isNone then .ready else .done,pending:=j }) }):=by
 refine step_lone_go ?_
 have hrun:(Instr.endRound l j).run P w=.ok (.bool j.isNone) { w with heap:=w.heap.setIfInBounds l (.loop { r with state:=if j.isNone then .ready else .done,pending:=j }) }:=by
  simp [Instr.endRound,Instr.getLoop,getObj,setObj,Sem.run,hr]
 rcases hj with ⟨rfl,rfl⟩ | ⟨k,rfl,rfl⟩ | ⟨id,k,rfl,he,rfl⟩
 · simp at hrun;simp [stepG,stepG.exec,Fc.fr,hT,hrun,doReturn,hk]
 · simp at hrun;simp [stepG,stepG.exec,Fc.fr,hT,hrun,doReturn,hk]
 · simp at hrun;simp [stepG,stepG.exec,Fc.fr,hT,hrun,doReturn,hk,he]
theorem ayield_round {E:Env} {l:Nat} {args:List AV} {H:zz} {R:AV→zz→Prop} {F:AFr} {n:Nat} {ps:List Nat} {a b:ACode} {pd:Option zL} (hl:H[l]? = some (.loop F n ps a b .ready pd)) (hlen:ps.length=args.length)
 (h:AWP E n H.length a (vM F ps args) H (fun e F1 H1=>e=.normal∧∃ pd1,H1[l]? = some (.loop F n ps a b .ready pd1) ∧
  AWP E n H.length b F1 (H1.set l (.loop F n ps a b .busy pd1)) (fun e F2 H2=>∃ pd2,H2[l]? = some (.loop F n ps a b .busy pd2) ∧
   match e with
   | .normal=>R (.val (.bool true)) (H2.set l (.loop F n ps a b .ready none))
   | e=>R (.val (.bool false)) (H2.set l (.loop F n ps a b .done (some e)))))):AYield E l args H R:=by
 intro K w ys blk base h1 h2 h3 h4
 obtain ⟨r,g1,g2,g3,g4,g5,g6,g7,g8⟩:=h1.loop hl h4
 refine ⟨r,g1,by rw [← h2.1,← hlen,← g4];simp,fun c cs=>?_⟩
 let T:Fc:=⟨r.fn,.normal,some blk⟩
 have hF:=bindF_rep ps args ys F r.tmps g8 h2 hlen g5
 have htm:(r.params.zip ys.toArray).foldl (fun tmps (t,a)=>tmps.setIfInBounds t a) r.tmps=(ps.zip ys).foldl (fun tmps (p:Nat × Value)=>tmps.setIfInBounds p.1 p.2) r.tmps:=by
  rw [← Array.foldl_toList,Array.toList_zip,g4]
 rw [htm]
 generalize (ps.zip ys).foldl (fun tmps (p:Nat × Value)=>tmps.setIfInBounds p.1 p.2) r.tmps=t0 at hF ⊢
 have hround:Frame.round blk r.fn t0 r.assign r.body .normal=T.fr t0 ([].map xe) [.code r.assign,.beginRound,.code r.body]:=rfl
 rw [hround]
 have hlive:∀ {H2:zz} {K2:Ctx} {w2:World},Ev H.length K H w K2 H2 w2→K2.γ l=some (blk,base):=fun ev=>(ev.γ l h3).trans h4
 obtain ⟨e,F1,H1,K1,w1,t1,nw,todo,⟨rfl,pd1,hl1,hb⟩,a1,a2,a3,a4,a5,a6,a7⟩:=h r.assign g6 K w t0 T [] [.beginRound,.code r.body] (c :: cs) h1 hF (Nat.le_refl _)
  ⟨fun q hq=>by cases hq;exact ⟨r,g1⟩,List.nodup_nil,(fun q hq=>by cases hq)⟩
 cases a6
 obtain ⟨r1,f1,f2,f3,f4,f5,f6,f7,f8⟩:=a1.loop hl1 (hlive a3)
 obtain ⟨b1,ev1⟩:=a1.setLoop (st':=.busy) hl1 (hlive a3) f1 f3
 have hst:=st_beginRound (P:=E.P) (T:=T) rfl (tmps:=t1) (ds:=(nw++[]).map xe) (k:=[.code r.body]) (cs:=c :: cs) f1 f2
 have hr1:({ r1 with state:=.busy,pending:=r1.pending }:Loop) = { r1 with state:=.busy }:=rfl
 rw [hr1] at b1 ev1
 have hN:H.length≤H1.length:=a3.len
 obtain ⟨e2,F2,H2,K2,w2,t2,nw2,todo2,⟨pd2,hl2,hR⟩,c1,c2,c3,c4,c5,c6,c7⟩:=hb r.body g7 K1 _ t1 T (nw++[]) [] (c :: cs) b1 (by rw [List.length_set];exact (Ev.mv a1 (ev1.mono (Nat.le_refl _))).frep a2 |> fun h=>by simpa using h) (by simpa using hN) (a4.ev ev1)
 have evA:Ev H.length K H w K2 H2 w2:=(a3.trans (ev1.mono hN)).trans c3
 obtain ⟨r2,d1,d2,d3,d4,d5,d6,d7,d8⟩:=c1.loop hl2 (hlive evA)
 have hpre:Steps E.P (lone (T.fr t0 ([].map xe) [.code r.assign,.beginRound,.code r.body]) (c :: cs) w) (lone (T.fr t2 ((nw2++(nw++[])).map xe) todo2) (c :: cs) w2):=a7.trans (.head hst c7)
 cases e2 with
 | normal =>
  cases c6
  have hlv:=uH (P:=E.P) (T:=T) rfl rfl (tmps:=t2) (ds:=(nw2++(nw++[])).map xe) (c:=c) (cs:=cs) d1 none (.inl ⟨rfl,rfl⟩)
  obtain ⟨k1,k2⟩:=c1.setLoop (st':=.ready) (pd':=none) hl2 (hlive evA) d1 .none
  exact ⟨_,_,_,K2,_,hR,k1,xD,evA.trans (k2.mono evA.len),hpre.trans (.one hlv)⟩
 | ret =>
  cases c6 with
  | ret k' =>
   have hlv:=uH (P:=E.P) (T:=T) rfl rfl (tmps:=t2) (ds:=(nw2++(nw++[])).map xe) (c:=c) (cs:=cs) d1 (some .ret) (.inr (.inl ⟨k',rfl,rfl⟩))
   obtain ⟨k1,k2⟩:=c1.setLoop (st':=.done) (pd':=some .ret) hl2 (hlive evA) d1 .ret
   exact ⟨_,_,_,K2,_,hR,k1,xD,evA.trans (k2.mono evA.len),hpre.trans (.one hlv)⟩
 | exit id =>
  cases c6 with
  | exit _ k' hk =>
   have hlv:=uH (P:=E.P) (T:=T) rfl rfl (tmps:=t2) (ds:=(nw2++(nw++[])).map xe) (c:=c) (cs:=cs) d1 (some (.exit id)) (.inr (.inr ⟨id,k',rfl,hk,rfl⟩))
   obtain ⟨k1,k2⟩:=c1.setLoop (st':=.done) (pd':=some (.exit id)) hl2 (hlive evA) d1 (.exit id)
   exact ⟨_,_,_,K2,_,hR,k1,xD,evA.trans (k2.mono evA.len),hpre.trans (.one hlv)⟩
end Go.Am
end
section
namespace Go.Am
theorem HRep.grow {E:Env} {K:Ctx} {w:World} {H:zz} (h:HRep E K w H) (o:Obj):HRep E K (w.alloc o) H∧Ev H.length K H w K H (w.alloc o):=by
 have hm:Mv K H.length w K H.length (w.alloc o):=⟨fun _ _=>rfl,Nat.le_refl _,fun _ h=>h,fun b hb x=>yI (zD w o (h.low b hb)) x,fun b c ty fz hb=>⟨c,fz,(zD w o (Array.getElem?_eq_some_iff.1 hb).1).trans hb,rfl⟩⟩
 refine ⟨⟨fun b ob hb=>hm.orep (h.obj b ob hb) (fun blk base e hl=>zD w o (yE h (.inl ⟨b,ob,base,hb,hl,e⟩))),h.inj,h.disj,fun b hb=>by have:=h.low b hb;simp;omega,fun g=>?_,h.xalloc o rfl (fun _ h=>h) (fun _ h=>.inl h) (fun b j st hb=>⟨b,hb⟩)⟩,
  ⟨fun _ _=>rfl,Nat.le_refl _,fun _ h=>h,fun _ h=>.inl h,fun _ h=>.inl h,fun b hb _=>zD w o hb,by simp,hm.cells,fun b r hb=>⟨r,(zD w o (Array.getElem?_eq_some_iff.1 hb).1).trans hb⟩,rfl,rfl,rfl⟩⟩
 exact VRep.mono (K:=K) (K':=K) (fun b hb=>absurd hb (Nat.not_lt_zero _)) (Nat.le_refl _) (fun _ h=>h) hm.wc hm.cells (h.glob g)
theorem st_endRange {P:Program} {T:Fc} {l:Nat} {tmps:Array Value} {ds:List Deferred} {k:List Item} {cs:List Frame} {w:World} {r:Loop} (hr:w.heap[l]? = some (.loop r)) (hs:r.state≠.busy) :
 step P (lone (T.fr tmps ds (.endRangeFunc l :: k)) cs w)=.next (lone (T.fr tmps ds ((r.pending.map Item.code).toList++k)) cs { w with heap:=w.heap.setIfInBounds l (.loop { r with state:=.exhausted }) }):=by
 refine step_lone_go ?_
 have hb:(r.state == .busy)=false:=by cases h:r.state<;>first | rfl | exact absurd h hs
 have hrun:(Instr.endLoop l).run P w=.ok r.pending { w with heap:=w.heap.setIfInBounds l (.loop { r with state:=.exhausted }) }:=by
  simp [Instr.endLoop,Instr.getLoop,getObj,setObj,Sem.run,hr,hs]
 simp [stepG,stepG.exec,Fc.fr,hrun]
theorem run_enterLoop {P:Program} (w:World) (fn:FuncId) (tmps:Array Value) (ps:Array Nat) (a b:Code) (round:Option Nat) (hround:∀ l,round=some l→∃ r,w.heap[l]? = some (.loop r)) :
 ∃ (dblk:Nat) (mk:List Nat) (w1:World),(Instr.enterLoop fn tmps ps a b round).run P w=.ok (w1.heap.size,mk.map xe) (w1.alloc (.loop { state:=.ready,pending:=none,fn,tmps,params:=ps,assign:=a,body:=b,defers:=dblk })) ∧
  ((mk=[]∧w1=w)∨(mk=[w.heap.size]∧w1=w.alloc (.deferred (some [])))):=by
 cases round with
 | some l =>
  obtain ⟨r,hr⟩:=hround l rfl
  exact ⟨r.defers,[],w,by simp [Instr.enterLoop,Instr.getLoop,getObj,Sem.run,hr],.inl ⟨rfl,rfl⟩⟩
 | none=>exact ⟨w.heap.size,[w.heap.size],w.alloc (.deferred (some [])),by simp [Instr.enterLoop,xe],.inr ⟨rfl,rfl⟩⟩
theorem st_rangeFunc {P:Program} {T:Fc} {tmps:Array Value} {ds:List Deferred} {k:List Item} {cs:List Frame} {w w1:World} {f:Operand} {ps:Array Nat} {a b:Code} {l:Nat} {mk:List Deferred} {nx:Next} {g:Frame}
 (he:(Instr.enterLoop T.fn tmps ps a b T.round).run P w=.ok (l,mk) w1)
 (hr:(do let d ← Deferred.ofValue ((T.fr tmps ds (.code (.rangeFunc f ps a b) :: k)).eval f) [Value.func (.yield l) #[] #[]].toArray;invoke d.target d.args:Sem Next).run P w1=.ok nx w1)
 (hn:(∃ f vs,nx=.enter f vs∧g=Frame.enter P f vs .normal)∨∃ l2 f ts a b,nx=.round l2 f ts a b∧g=Frame.round l2 f ts a b .normal) :
 step P (lone (T.fr tmps ds (.code (.rangeFunc f ps a b) :: k)) cs w)=.next (lone g (T.fr tmps (mk++ds) (.inRangeFunc l :: k) :: cs) w1):=by
 refine step_lone_go ?_
 have hev:({ fn:=T.fn,tmps:=tmps,todo:=.inRangeFunc l :: k,defers:=mk++ds,mode:=.run,kind:=T.kind,roundOf:=T.round }:Frame).eval f=(T.fr tmps ds (.code (.rangeFunc f ps a b) :: k)).eval f:=by cases f<;>rfl
 have hres:(do let d ← resolve ({ fn:=T.fn,tmps:=tmps,todo:=.inRangeFunc l :: k,defers:=mk++ds,mode:=.run,kind:=T.kind,roundOf:=T.round }:Frame).eval { callee:=.value f,args:=#[.const (.func (.yield l) #[] #[])],argTypes:=#[] } 0;invoke d.target d.args:Sem Next).run P w1=.ok nx w1:=by
  rw [← hr]
  have ha:(#[Operand.const (.func (.yield l) #[] #[])].map ({ fn:=T.fn,tmps:=tmps,todo:=.inRangeFunc l :: k,defers:=mk++ds,mode:=.run,kind:=T.kind,roundOf:=T.round }:Frame).eval)=[Value.func (.yield l) #[] #[]].toArray:=by simp [Frame.eval]
  simp only [resolve,hev,ha]
 rcases hn with ⟨f',vs,rfl,rfl⟩ | ⟨l2,f',ts,a',b',rfl,rfl⟩
 · simp [stepG,stepG.exec,Fc.fr,he,stepG.apply,hres]
 · simp [stepG,stepG.exec,Fc.fr,he,stepG.apply,hres]
section
variable {E:Env} {n N:Nat} {F:AFr} {H:zz}
theorem awp_rfun {Q:zL→AFr→zz→Prop} {f:Opd} {ps:List Nat} {a b:ACode}
    (h:ACallV E (f.ev E.G F) [.yld H.length] (H++[.loop F n ps a b .ready none]) (fun _ H1=>∃ st pd,H1[H.length]? = some (.loop F n ps a b st pd)∧st≠.busy∧Q (pd.getD .normal) F (H1.set H.length .dead))):AWP E n N (.rfun f ps a b) F H Q:=by
  refine xH fun c hc hns K w tmps T rs k cs h1 h2 h3 h4=>?_
  cases c with
  | rangeFunc fo po ao bo =>
    simp only [yF] at hc
    split at hc
    · rename_i hps
      simp only [ACode.rfun.injEq] at hc
      obtain ⟨rfl,rfl,rfl,rfl⟩:=hc
      obtain ⟨dblk,mk,w1,hen,hmk⟩:=run_enterLoop (P:=E.P) w T.fn tmps po ao bo T.round h4.round
      have hgr:HRep E K w1 H∧Ev H.length K H w K H w1:=by
        rcases hmk with ⟨_,rfl⟩ | ⟨_,rfl⟩
        · exact ⟨h1,Ev.refl _ _ _ _ (Nat.le_refl _)⟩
        · exact h1.grow _
      obtain ⟨g1,ev1⟩:=hgr
      have hF1:=(Ev.mv h1 ev1).frep h2
      have hm:=sd g1 (.loop { state:=.ready,pending:=none,fn:=T.fn,tmps:=tmps,params:=po,assign:=ao,body:=bo,defers:=dblk }) (some (w1.heap.size,0)) (H.length+1) (Nat.le_succ _)
      obtain ⟨g2,ev2⟩:=g1.push (.loop { state:=.ready,pending:=none,fn:=T.fn,tmps:=tmps,params:=po,assign:=ao,body:=bo,defers:=dblk }) (.loop F n po.toList (yF E.P n ao) (yF E.P n bo) .ready none) 0
        (.loop _ _ _ _ _ _ _ _ _ _ (yR w1 _) rfl .none rfl (fun p hp=>Nat.le_of_ble_eq_true (Array.all_eq_true_iff_forall_mem.1 hps p (by simpa using hp))) rfl rfl (hm.frep hF1))
      have hops:=tx h1 h2 (ρ:=(T.fr tmps (rs.map xe) (.code (.rangeFunc fo po ao bo) :: k)).eval) (fun x=>Fc.eval_fr _ _ _ _ x)
      have evB:=ev1.trans ev2
      have hfv:=(Ev.mv h1 evB).rep (hops fo)
      have hyl:VReps (K.push H.length (some (w1.heap.size,0))) (H++[AObj.loop F n po.toList (yF E.P n ao) (yF E.P n bo) .ready none]).length (w1.alloc (.loop { state:=.ready,pending:=none,fn:=T.fn,tmps:=tmps,params:=po,assign:=ao,body:=bo,defers:=dblk }))
          [.yld H.length] [.func (.yield w1.heap.size) #[] #[]]:=⟨rfl,fun i x y hx hy=>by
        cases i with
        | zero=>simp at hx hy;subst hx hy;exact .yld _ _ 0 (by simp) (Ctx.push_eq _ _ _)
        | succ i=>simp at hx⟩
      have fin:∀ (nx:Next) (g:Frame),(do let d ← Deferred.ofValue ((T.fr tmps (rs.map xe) (.code (.rangeFunc fo po ao bo) :: k)).eval fo) [Value.func (.yield w1.heap.size) #[] #[]].toArray;invoke d.target d.args:Sem Next).run E.P (w1.alloc (.loop { state:=.ready,pending:=none,fn:=T.fn,tmps:=tmps,params:=po,assign:=ao,body:=bo,defers:=dblk })) =
            .ok nx (w1.alloc (.loop { state:=.ready,pending:=none,fn:=T.fn,tmps:=tmps,params:=po,assign:=ao,body:=bo,defers:=dblk })) →
          ((∃ f vs,nx=.enter f vs∧g=Frame.enter E.P f vs .normal)∨∃ l2 f ts a b,nx=.round l2 f ts a b∧g=Frame.round l2 f ts a b .normal) →
          (∃ v y H' K' w',(∃ st pd,H'[H.length]? = some (.loop F n po.toList (yF E.P n ao) (yF E.P n bo) st pd)∧st≠.busy∧Q (pd.getD .normal) F (H'.set H.length .dead))∧HRep E K' w' H'∧VRep K' H'.length w' v y ∧
            Ev (H++[AObj.loop F n po.toList (yF E.P n ao) (yF E.P n bo) .ready none]).length (K.push H.length (some (w1.heap.size,0))) (H++[.loop F n po.toList (yF E.P n ao) (yF E.P n bo) .ready none]) (w1.alloc (.loop { state:=.ready,pending:=none,fn:=T.fn,tmps:=tmps,params:=po,assign:=ao,body:=bo,defers:=dblk })) K' H' w' ∧
            Steps E.P (lone g (T.fr tmps (mk.map xe++rs.map xe) (.inRangeFunc w1.heap.size :: k) :: cs) (w1.alloc (.loop { state:=.ready,pending:=none,fn:=T.fn,tmps:=tmps,params:=po,assign:=ao,body:=bo,defers:=dblk }))) (lone ((T.fr tmps (mk.map xe++rs.map xe) (.inRangeFunc w1.heap.size :: k)).finish y) cs w')) →
          ∃ e F' H' K' w' tmps' nw todo,Q e F' H'∧HRep E K' w' H'∧vi n K' H'.length w' F' tmps'∧Ev N K H w K' H' w'∧Aux T (nw++rs) K' H' w'∧(∀ r∈nw,w.heap.size≤r)∧Arr k e todo ∧
            Steps E.P (lone (T.fr tmps (rs.map xe) (.code (.rangeFunc fo po ao bo) :: k)) cs w) (lone (T.fr tmps' ((nw++rs).map xe) todo) cs w'):=by
        rintro nx g hr hn ⟨v,y,H',K',w',⟨st,pd,hl,hst,hq⟩,c1,c2,c3,c4⟩
        have hfirst:=st_rangeFunc (cs:=cs) hen hr hn
        have hfin:(T.fr tmps (mk.map xe++rs.map xe) (.inRangeFunc w1.heap.size :: k)).finish y=T.fr tmps (mk.map xe++rs.map xe) (.endRangeFunc w1.heap.size :: k):=rfl
        rw [hfin] at c4
        have hγ:K'.γ H.length=some (w1.heap.size,0):=(c3.γ H.length (by simp)).trans (Ctx.push_eq _ _ _)
        obtain ⟨r,d1,d2,d3,d4,d5,d6,d7,d8⟩:=c1.loop hl hγ
        have hend:=st_endRange (P:=E.P) (T:=T) (tmps:=tmps) (ds:=mk.map xe++rs.map xe) (k:=k) (cs:=cs) d1 (by rw [d2];exact hst)
        obtain ⟨k1,ev3⟩:=c1.setLoop (st':=.exhausted) hl hγ d1 d3
        have hr1:({ r with state:=.exhausted,pending:=r.pending }:Loop) = { r with state:=.exhausted }:=rfl
        rw [hr1] at k1 ev3
        obtain ⟨k2,ev4⟩:=k1.kill H.length
        rw [List.set_set] at k2 ev4
        have hlenH:H.length≤H'.length:=by have:=c3.len;simp at this;omega
        have evC:Ev H.length K H w K' (H'.set H.length .dead) { w' with heap:=w'.heap.setIfInBounds w1.heap.size (.loop { r with state:=.exhausted }) } :=
          ((evB.trans (c3.mono (by simp))).trans (ev3.mono hlenH)).trans (ev4.mono (by simpa using hlenH))
        have haux0:Aux T (mk++rs) K H w1:=by
          have:=h4.ev ev1
          rcases hmk with ⟨rfl,rfl⟩ | ⟨rfl,hw1⟩
          · exact this
          · have hnew:w.heap.size∉rs:=fun hm=>by
              have:=(Array.getElem?_eq_some_iff.1 (h4.marks _ hm).1).1
              exact Nat.lt_irrefl _ this
            refine ⟨this.round,List.nodup_cons.2 ⟨hnew,this.nodup⟩,fun q hq=>?_⟩
            rcases List.mem_cons.1 hq with rfl | hq
            · refine ⟨by rw [hw1];exact yR w _,fun ho=>?_,fun hi=>?_⟩
              · exact absurd (yE h1 ho) (Nat.lt_irrefl _)
              · exact absurd (h1.low _ hi) (Nat.lt_irrefl _)
            · exact this.marks q hq
        have haux:=haux0.ev ((ev2.trans (c3.mono (by simp))).trans ((ev3.mono hlenH).trans (ev4.mono (by simpa using hlenH))))
        have hmkl:∀ q∈mk,w.heap.size≤q:=by
          rcases hmk with ⟨rfl,_⟩ | ⟨rfl,_⟩
          · intro q hq;cases hq
          · intro q hq;simp at hq;omega
        have harr:Arr k (pd.getD .normal) ((r.pending.map Item.code).toList++k):=by
          cases hp:r.pending with
          | none=>rw [hp] at d3;cases d3;exact .normal
          | some j=>rw [hp] at d3;cases d3 with
            | exit id=>exact .exit id k rfl
            | ret=>exact .ret k
        refine ⟨_,F,_,K',_,tmps,mk,_,hq,k2,(Ev.mv h1 evC).frep h2,evC.mono h3,haux,hmkl,harr,?_⟩
        rw [List.map_append]
        exact .head hfirst (c4.trans (.one hend))
      cases callv_went h g2 hfv hyl rfl with
      | enter f vs hr hh=>exact fin _ _ hr (.inl ⟨f,vs,rfl,rfl⟩) (hh _ cs)
      | round l2 f ts a b hr hh=>exact fin _ _ hr (.inr ⟨l2,f,ts,a,b,rfl,rfl⟩) (hh _ cs)
    · cases hc
  | region id ops d=>simp only [yF] at hc;split at hc<;>cases hc
  | scope a=>exact absurd rfl (hns a)
  | _=>cases hc
end
end Go.Am
end
section
namespace Go.Am
inductive Sub where
 | to (b:Nat)
 | isl (k:Nat) (es:List AV)
 | icells (cs:List AV)
 | gone
 deriving Inhabited
mutual
def AV.sub (σ:Nat→Sub):AV→AV
 | .undef=>.undef
 | .val v=>.val v
 | .agg cs=>.agg (AV.subL σ cs)
 | .tup cs=>.tup (AV.subL σ cs)
 | .intq=>.intq
 | .ptr b off=>match σ b with
  | .to b'=>.ptr b' off
  | .icells cs=>.iptr (cs.drop off)
  | _=>.undef
 | .eptr b k i j=>match σ b with
  | .to b'=>.eptr b' k i j
  | .isl k' es=>cond (Nat.beq k k' && Nat.blt i es.length) (.iptr ((es.getD i .undef).cells.drop j)) .undef
  | _=>.undef
 | .iptr cs=>.iptr (AV.subL σ cs)
 | .sl b k lo len=>match σ b with
  | .to b'=>.sl b' k lo len
  | .isl k' es=>cond (Nat.beq k k' && Nat.ble (lo+len) es.length) (.isl k ((es.drop lo).take len)) .undef
  | _=>.undef
 | .slc b k lo len cap=>match σ b with
  | .to b'=>.slc b' k lo len cap
  | _=>.undef
 | .isl k es=>.isl k (AV.subL σ es)
 | .fn f cs=>.fn f (AV.subL σ cs)
 | .yld l=>match σ l with
  | .to b'=>.yld b'
  | _=>.undef
 | .iface t v=>.iface t (AV.sub σ v)
 | .amap b=>match σ b with
  | .to b'=>.amap b'
  | _=>.undef
 | .bsh t b u=>match σ b with
  | .to b'=>.bsh t b' u
  | _=>.undef
 | .bsl e b n=>match σ b with
  | .to b'=>.bsl e b' n
  | _=>.undef
def AV.subL (σ:Nat→Sub):List AV→List AV
 | []=>[]
 | c :: cs=>AV.sub σ c :: AV.subL σ cs
end
theorem AV.subL_eq (σ:Nat→Sub):∀ cs,AV.subL σ cs=cs.map (AV.sub σ)
 | []=>rfl
 | c :: cs=>by rw [AV.subL,AV.subL_eq σ cs];rfl
theorem AV.cells_sub (σ:Nat→Sub) (v:AV):(v.sub σ).cells=v.cells.map (AV.sub σ):=by
 cases v with
 | agg cs=>simp [AV.sub,AV.cells,AV.subL_eq]
 | ptr b off =>
  show (AV.sub σ (.ptr b off)).cells=[AV.sub σ (.ptr b off)]
  simp only [AV.sub];cases σ b<;>rfl
 | eptr b k i j =>
  show (AV.sub σ (.eptr b k i j)).cells=[AV.sub σ (.eptr b k i j)]
  simp only [AV.sub]
  cases σ b with
  | isl k' es=>dsimp only;cases (Nat.beq k k' && Nat.blt i es.length)<;>rfl
  | _=>rfl
 | sl b k lo len =>
  show (AV.sub σ (.sl b k lo len)).cells=[AV.sub σ (.sl b k lo len)]
  simp only [AV.sub]
  cases σ b with
  | isl k' es=>dsimp only;cases (Nat.beq k k' && Nat.ble (lo+len) es.length)<;>rfl
  | _=>rfl
 | slc b k lo len cap =>
  show (AV.sub σ (.slc b k lo len cap)).cells=[AV.sub σ (.slc b k lo len cap)]
  simp only [AV.sub];cases σ b<;>rfl
 | yld l =>
  show (AV.sub σ (.yld l)).cells=[AV.sub σ (.yld l)]
  simp only [AV.sub];cases σ l<;>rfl
 | amap l =>
  show (AV.sub σ (.amap l)).cells=[AV.sub σ (.amap l)]
  simp only [AV.sub];cases σ l<;>rfl
 | bsh t l u =>
  show (AV.sub σ (.bsh t l u)).cells=[AV.sub σ (.bsh t l u)]
  simp only [AV.sub];cases σ l<;>rfl
 | bsl e l n =>
  show (AV.sub σ (.bsl e l n)).cells=[AV.sub σ (.bsl e l n)]
  simp only [AV.sub];cases σ l<;>rfl
 | _=>simp [AV.sub,AV.cells]
structure sS (E:Env) (K:Ctx) (w:World) (H:zz) (σ:Nat→Sub) (K':Ctx) (M':Nat):Prop where
 to:∀ b b',b<H.length→σ b=.to b'→b'<M'∧K'.γ b'=K.γ b
 isl:∀ b k es',b<H.length→σ b=.isl k es'→∃ es,H[b]? = some (.arr k es)∧es'=AV.subL σ es
 icells:∀ b cs',b<H.length→σ b=.icells cs'→∃ cs,H[b]? = some (.cells cs)∧cs'=AV.subL σ cs
 I:∀ b,K.I b→K'.I b
 fz:∀ b blk base,b<H.length→(∀ b',σ b≠.to b')→σ b≠.gone→K.γ b=some (blk,base)→K'.I blk
theorem cell_at {w:World} {blk off:Nat} {c:Array Value} {ty:TypeId} {fz:Nat × Nat} {y:Value} (h:w.heap[blk]? = some (.cells c ty fz)) (hy:c[off]? = some y):w.cell? ⟨blk,off,none⟩=some y:=by
 simp [World.cell?,h,hy]
theorem vp {E:Env} {K:Ctx} {w:World} {H:zz} {σ:Nat→Sub} {K':Ctx} {M':Nat} (hh:HRep E K w H) (s:sS E K w H σ K' M') :
 ∀ (n:Nat) (v:AV) (y:Value),SizeOf.sizeOf (v.sub σ)≤n→VRep K H.length w v y→VRep K' M' w (v.sub σ) y:=by
 intro n
 induction n using Nat.strongRecOn with
 | _ n ih =>
  intro v y hn h
  have mem:∀ (cs:List AV) (i:Nat) c',(AV.subL σ cs)[i]? = some c'→∃ c,cs[i]? = some c∧c'=c.sub σ∧SizeOf.sizeOf c'<SizeOf.sizeOf (AV.subL σ cs):=by
   intro cs i c' hc
   have hlt:=List.sizeOf_lt_of_mem (List.mem_of_getElem? hc)
   rw [AV.subL_eq,List.getElem?_map] at hc
   obtain ⟨c,h1,rfl⟩:=Option.map_eq_some_iff.1 hc
   exact ⟨c,h1,rfl,hlt⟩
  cases h with
  | undef y=>exact .undef _
  | val _ hv=>exact .val _ hv
  | agg cs ys hl h =>
   simp only [AV.sub] at hn ⊢
   refine .agg _ ys (by rw [AV.subL_eq,List.length_map];exact hl) fun i c' y' hc hy=>?_
   obtain ⟨c,h1,rfl,h2⟩:=mem cs i c' hc
   exact ih _ (by simp at hn;omega) c y' (Nat.le_refl _) (h i c y' h1 hy)
  | tup cs ys hl h =>
   simp only [AV.sub] at hn ⊢
   refine .tup _ ys (by rw [AV.subL_eq,List.length_map];exact hl) fun i c' y' hc hy=>?_
   obtain ⟨c,h1,rfl,h2⟩:=mem cs i c' hc
   exact ih _ (by simp at hn;omega) c y' (Nat.le_refl _) (h i c y' h1 hy)
  | ptr b off blk base hM hγ =>
   simp only [AV.sub] at hn ⊢
   split
   · rename_i b' hs
     obtain ⟨h1,h2⟩:=s.to b b' hM hs
     exact .ptr b' off blk base h1 (h2.trans hγ)
   · rename_i cs' hs
     obtain ⟨cs,h1,h2⟩:=s.icells b cs' hM hs
     have ho:=hh.obj b _ h1
     rw [hγ] at ho
     rw [hs] at hn
     cases ho with
     | cells _ _ _ c ty hc hl =>
      have key:∀ j x',(cs'.drop off)[j]? = some x'→c[base+off+j]? = some (c.getD (base+off+j) undef)∧VRep K' M' w x' (c.getD (base+off+j) undef):=by
       intro j x' hx
       have hlt:=List.sizeOf_lt_of_mem (List.mem_of_getElem? hx)
       rw [List.getElem?_drop,h2] at hx
       obtain ⟨x,hx1,hx2,_⟩:=mem cs (off+j) x' hx
       obtain ⟨z,hz,hv⟩:=hl (off+j) x hx1
       have hgd:c.getD (base+off+j) undef=z:=by rw [Array.getD_eq_getD_getElem?,Nat.add_assoc,hz];rfl
       rw [hgd,Nat.add_assoc]
       refine ⟨hz,?_⟩
       rw [hx2]
       exact ih (SizeOf.sizeOf (x.sub σ)) (by rw [← hx2];simp at hn;omega) x z (Nat.le_refl _) hv
      exact .iptr _ (fun j=>c.getD (base+off+j) undef) blk (base+off) (s.fz b blk base hM (by simp [hs]) (by simp [hs]) hγ) (fun j x hx=>cell_at hc (key j x hx).1) (fun j x hx=>(key j x hx).2)
   · exact .undef _
  | eptr b k i j blk base hM hγ =>
   simp only [AV.sub] at hn ⊢
   split
   · rename_i b' hs
     obtain ⟨h1,h2⟩:=s.to b b' hM hs
     exact .eptr b' k i j blk base h1 (h2.trans hγ)
   · rename_i k' es' hs
     rw [hs] at hn
     dsimp only at hn
     obtain ⟨es,h1,h2⟩:=s.isl b k' es' hM hs
     cases hc:(Nat.beq k k' && Nat.blt i es'.length) with
     | false=>exact .undef _
     | true =>
      rw [hc] at hn
      simp only [cond_true] at hn ⊢
      simp only [Bool.and_eq_true] at hc
      have hk:k=k':=Nat.eq_of_beq_eq_true hc.1
      have hi:i<es'.length:=by simpa [Nat.blt_eq] using hc.2
      subst hk
      obtain ⟨e',hi1⟩:∃ e',es'[i]? = some e':=⟨_,List.getElem?_eq_getElem hi⟩
      have hgd:es'.getD i .undef=e':=by simp [List.getD_eq_getElem?_getD,hi1]
      rw [hgd] at hn ⊢
      have ho:=hh.obj b _ h1
      rw [hγ] at ho
      cases ho with
      | arr _ _ _ _ c ty hcell hkk hl =>
       have hi':=hi1
       rw [h2] at hi'
       obtain ⟨e,g1,g2,_⟩:=mem es i e' hi'
       have key:∀ jj x',(e'.cells.drop j)[jj]? = some x'→c[base+(i * k+j)+jj]? = some (c.getD (base+(i * k+j)+jj) undef)∧VRep K' M' w x' (c.getD (base+(i * k+j)+jj) undef):=by
        intro jj x' hx
        have hlt:=List.sizeOf_lt_of_mem (List.mem_of_getElem? hx)
        rw [List.getElem?_drop,g2,AV.cells_sub,List.getElem?_map] at hx
        obtain ⟨x,hx1,hx2⟩:=Option.map_eq_some_iff.1 hx
        obtain ⟨z,hz,hv⟩:=hl i e g1 (j+jj) x hx1
        have hz':c[base+(i * k+j)+jj]? = some z:=by rw [← hz];congr 1;omega
        have hgd:c.getD (base+(i * k+j)+jj) undef=z:=by rw [Array.getD_eq_getD_getElem?,hz'];rfl
        rw [hgd]
        refine ⟨hz',?_⟩
        rw [← hx2]
        exact ih (SizeOf.sizeOf (x.sub σ)) (by rw [hx2];simp at hn;omega) x z (Nat.le_refl _) hv
       exact .iptr _ (fun jj=>c.getD (base+(i * k+j)+jj) undef) blk (base+(i * k+j)) (s.fz b blk base hM (by simp [hs]) (by simp [hs]) hγ) (fun j x hx=>cell_at hcell (key j x hx).1) (fun j x hx=>(key j x hx).2)
   · exact .undef _
  | iptr cs f blk off hI hc h =>
   simp only [AV.sub] at hn ⊢
   refine .iptr _ f blk off (s.I _ hI) (fun j c' hj=>?_) fun j c' hj=>?_
   · obtain ⟨c,h1,_,_⟩:=mem cs j c' hj;exact hc j c h1
   · obtain ⟨c,h1,rfl,h2⟩:=mem cs j c' hj
     exact ih _ (by simp at hn;omega) c _ (Nat.le_refl _) (h j c h1)
  | slnil b k lo hM =>
   simp only [AV.sub]
   split
   · rename_i b' hs;exact .slnil b' k lo (s.to b b' hM hs).1
   · rename_i k' es' hs
     cases (Nat.beq k k' && Nat.ble (lo+0) es'.length) with
     | false=>exact .undef _
     | true=>simp only [cond_true,List.take_zero];exact .islnil k
   · exact .undef _
  | sl0 b k lo a hM =>
   simp only [AV.sub]
   split
   · rename_i b' hs;exact .sl0 b' k lo a (s.to b b' hM hs).1
   · rename_i k' es' hs
     cases (Nat.beq k k' && Nat.ble (lo+0) es'.length) with
     | false=>exact .undef _
     | true =>
      simp only [cond_true,List.take_zero]
      exact .isl k [] (fun _ _=>undef) a 0 (Nat.le_refl _) (fun h=>absurd rfl h) (fun i e h=>by simp at h) (fun i e j c h=>by simp at h) (fun i e j c h=>by simp at h)
   · exact .undef _
  | slc b k lo len cap blk base hM hγ hle hs =>
   simp only [AV.sub] at hn ⊢
   split
   · rename_i b' hs'
     obtain ⟨h1,h2⟩:=s.to b b' hM hs'
     exact .slc b' k lo len cap blk base h1 (h2.trans hγ) hle hs
   · exact .undef _
  | sl b k lo len cap blk base hM hγ hle hs =>
   simp only [AV.sub] at hn ⊢
   split
   · rename_i b' hs'
     obtain ⟨h1,h2⟩:=s.to b b' hM hs'
     exact .sl b' k lo len cap blk base h1 (h2.trans hγ) hle hs
   · rename_i k' es' hs'
     rw [hs'] at hn
     dsimp only at hn
     cases hc:(Nat.beq k k' && Nat.ble (lo+len) es'.length) with
     | false=>exact .undef _
     | true =>
      rw [hc] at hn
      simp only [cond_true] at hn ⊢
      simp only [Bool.and_eq_true] at hc
      have hk:k=k':=Nat.eq_of_beq_eq_true hc.1
      have hi:lo+len≤es'.length:=Nat.le_of_ble_eq_true hc.2
      subst hk
      obtain ⟨es,h1,h2⟩:=s.isl b k es' hM hs'
      have ho:=hh.obj b _ h1
      rw [hγ] at ho
      have hlen:((es'.drop lo).take len).length=len:=by simp;omega
      rw [show VRep K' M' w (.isl k ((es'.drop lo).take len)) (.slice (some ⟨blk,base+lo * k,none⟩) len cap)=VRep K' M' w (.isl k ((es'.drop lo).take len)) (.slice (some ⟨blk,base+lo * k,none⟩) ((es'.drop lo).take len).length cap) by rw [hlen]]
      cases ho with
      | arr _ _ _ _ c ty hcell hkk hl =>
       have key:∀ i e',((es'.drop lo).take len)[i]? = some e'→e'.cells.length=k∧∀ jj x',e'.cells[jj]? = some x'→c[base+lo * k+(i * k+jj)]? = some (c.getD (base+lo * k+(i * k+jj)) undef)∧VRep K' M' w x' (c.getD (base+lo * k+(i * k+jj)) undef):=by
        intro i e' hi
        have hlt:=List.sizeOf_lt_of_mem (List.mem_of_getElem? hi)
        rw [List.getElem?_take] at hi
        split at hi
        · rw [List.getElem?_drop,h2] at hi
          obtain ⟨e,g1,g2,_⟩:=mem es (lo+i) e' hi
          refine ⟨by rw [g2,AV.cells_sub,List.length_map];exact hkk _ e g1,fun jj x' hx=>?_⟩
          have h4:SizeOf.sizeOf x'≤SizeOf.sizeOf e':=by
           have hm:=List.mem_of_getElem? hx
           cases he':e' with
           | agg cs=>rw [he'] at hm;simp only [AV.cells] at hm;have:=List.sizeOf_lt_of_mem hm;simp;omega
           | _=>rw [he'] at hm;simp only [AV.cells,List.mem_singleton] at hm;rw [hm];exact Nat.le_refl _
          rw [g2,AV.cells_sub,List.getElem?_map] at hx
          obtain ⟨x,hx1,hx2⟩:=Option.map_eq_some_iff.1 hx
          obtain ⟨z,hz,hv⟩:=hl (lo+i) e g1 jj x hx1
          have hz':c[base+lo * k+(i * k+jj)]? = some z:=by rw [← hz];congr 1;rw [Nat.add_mul];omega
          have hgd:c.getD (base+lo * k+(i * k+jj)) undef=z:=by rw [Array.getD_eq_getD_getElem?,hz'];rfl
          rw [hgd]
          refine ⟨hz',?_⟩
          rw [← hx2]
          exact ih (SizeOf.sizeOf (x.sub σ)) (by rw [hx2];simp at hn;omega) x z (Nat.le_refl _) hv
        · cases hi
       exact .isl k _ (fun i jj=>c.getD (base+lo * k+(i * k+jj)) undef) ⟨blk,base+lo * k,none⟩ cap (by rw [hlen];exact hle) (fun _=>⟨s.fz b blk base hM (by simp [hs']) (by simp [hs']) hγ,rfl⟩)
        (fun i e hi=>(key i e hi).1) (fun i e j x hi hx=>cell_at hcell ((key i e hi).2 j x hx).1) (fun i e j x hi hx=>((key i e hi).2 j x hx).2)
   · exact .undef _
  | islnil k=>simp only [AV.sub,AV.subL];exact .islnil k
  | isl k es f a cap hle hI hk hc h =>
   simp only [AV.sub] at hn ⊢
   have hlen:(AV.subL σ es).length=es.length:=by rw [AV.subL_eq,List.length_map]
   rw [← hlen]
   have hcs:∀ (i:Nat) e' (j:Nat) c',(AV.subL σ es)[i]? = some e'→e'.cells[j]? = some c'→∃ e c,es[i]? = some e∧e.cells[j]? = some c∧c'=c.sub σ∧SizeOf.sizeOf c'≤SizeOf.sizeOf e'∧SizeOf.sizeOf e'<SizeOf.sizeOf (AV.subL σ es):=by
    intro i e' j c' he hj
    obtain ⟨e,h1,h2,h3⟩:=mem es i e' he
    have h4:SizeOf.sizeOf c'≤SizeOf.sizeOf e':=by
     have hm:=List.mem_of_getElem? hj
     cases he':e' with
     | agg cs=>rw [he'] at hm;simp only [AV.cells] at hm;have:=List.sizeOf_lt_of_mem hm;simp;omega
     | _=>rw [he'] at hm;simp only [AV.cells,List.mem_singleton] at hm;rw [hm];exact Nat.le_refl _
    rw [h2,AV.cells_sub,List.getElem?_map] at hj
    obtain ⟨c,hc1,hc2⟩:=Option.map_eq_some_iff.1 hj
    exact ⟨e,c,h1,hc1,hc2.symm,h4,h3⟩
   refine .isl k _ f a cap (by rw [hlen];exact hle) (fun hne=>?_) (fun i e' he=>?_) (fun i e' j c' he hj=>?_) fun i e' j c' he hj=>?_
   · have:es≠[]:=by intro e;subst e;exact hne rfl
     exact ⟨s.I _ (hI this).1,(hI this).2⟩
   · obtain ⟨e,h1,h2,_⟩:=mem es i e' he
     rw [h2,AV.cells_sub,List.length_map];exact hk i e h1
   · obtain ⟨e,c,h1,h2,_⟩:=hcs i e' j c' he hj;exact hc i e j c h1 h2
   · obtain ⟨e,c,h1,h2,rfl,h4,h5⟩:=hcs i e' j c' he hj
     exact ih _ (by simp at hn;omega) c _ (Nat.le_refl _) (h i e j c h1 h2)
  | fn f cs ys hl h =>
   simp only [AV.sub] at hn ⊢
   refine .fn f _ ys (by rw [AV.subL_eq,List.length_map];exact hl) fun i c' y' hc hy=>?_
   obtain ⟨c,h1,rfl,h2⟩:=mem cs i c' hc
   exact ih _ (by simp at hn;omega) c y' (Nat.le_refl _) (h i c y' h1 hy)
  | yld l blk base hM hγ =>
   simp only [AV.sub]
   split
   · rename_i b' hs
     obtain ⟨h1,h2⟩:=s.to l b' hM hs
     exact .yld b' blk base h1 (h2.trans hγ)
   · exact .undef _
  | iface t v y h =>
   simp only [AV.sub] at hn ⊢
   exact .iface t _ y (ih _ (by simp at hn;omega) v y (Nat.le_refl _) h)
  | amap b blk base hM hγ =>
   simp only [AV.sub]
   split
   · rename_i b' hs
     obtain ⟨h1,h2⟩:=s.to b b' hM hs
     exact .amap b' blk base h1 (h2.trans hγ)
   · exact .undef _
  | bsh t b blk c fz hM hγ hc hn2 =>
   simp only [AV.sub]
   split
   · rename_i b' hs
     obtain ⟨h1,h2⟩:=s.to b b' hM hs
     exact .bsh t b' blk c fz h1 (h2.trans hγ) hc hn2
   · exact .undef _
  | bsh1 t b blk c fz hM hγ hc hn2 =>
   simp only [AV.sub]
   split
   · rename_i b' hs
     obtain ⟨h1,h2⟩:=s.to b b' hM hs
     exact .bsh1 t b' blk c fz h1 (h2.trans hγ) hc hn2
   · exact .undef _
  | bsl e b m blk cap c fz hM hγ hc hn2 hcap =>
   simp only [AV.sub]
   split
   · rename_i b' hs
     obtain ⟨h1,h2⟩:=s.to b b' hM hs
     exact .bsl e b' m blk cap c fz h1 (h2.trans hγ) hc hn2 hcap
   · exact .undef _
  | intq n=>rw [show AV.sub σ .intq=.intq by simp only [AV.sub]];exact .intq n
end Go.Am
end
