/- Contracts of the program's functions. -/
import Derived.Test.YtpfnahcfnclgdaaGreatDoorProg
import Derived.Test.YtpfnahcfnclgdaaGreatDoorPCt2
noncomputable section
set_option maxHeartbeats 16000000
namespace Go.Am
structure Ed where
 frm:Int
 to:Int
 var:Int
 ty:Int
 cond:Ex
 opens:List Int
 closes:List Int
 checks:List Ex
 limits:List (Int × Int)
 inside:List Int
def wy (x:Int × Int):AV:=.agg [int x.1,int x.2]
theorem limE_def (x:Int × Int):wy x=.agg [int x.1,int x.2]:=rfl
theorem limE_closed (x:Int × Int):(wy x).closed=true:=rfl
def Ed.enc (x:Ed):AV:=.agg ([int x.frm,int x.to,int x.var,int x.ty]++x.cond.enc.cells++[.isl 1 (zy int x.opens),.isl 1 (zy int x.closes),.isl 8 (zy Ex.enc x.checks),.isl 2 (zy wy x.limits),.isl 1 (zy int x.inside)])
theorem Ed.form (x:Ed):∃ co ec cv cf ck xk xn xt,x.enc=.agg [int x.frm,int x.to,int x.var,int x.ty,int co,.isl 8 ec,int cv,int cf,int ck,int xk,int xn,str xt,.isl 1 (zy int x.opens),.isl 1 (zy int x.closes),.isl 8 (zy Ex.enc x.checks),.isl 2 (zy wy x.limits),.isl 1 (zy int x.inside)] ∧
 x.cond.enc=.agg [int co,.isl 8 ec,int cv,int cf,int ck,int xk,int xn,str xt]:=by
 obtain ⟨co,ec,cv,cf,ck,xk,xn,xt,h⟩:=Ex.form x.cond
 exact ⟨co,ec,cv,cf,ck,xk,xn,xt,by rw [Ed.enc,h];rfl,h⟩
theorem Ed.closed (x:Ed):x.enc.closed=true:=by
 obtain ⟨co,ec,cv,cf,ck,xk,xn,xt,h,hc⟩:=x.form
 have hcl:=Ex.closed x.cond
 rw [hc] at hcl
 rw [h]
 have h1:=zQ x.opens
 have h2:=zQ x.closes
 have h3:=Ex.closedI x.checks
 have h4:(AV.isl 2 (zy wy x.limits)).closed=true:=yU limE_closed x.limits
 have h5:=zQ x.inside
 simp only [AV.closed,AV.closedL,Bool.and_true,Bool.true_and,Bool.and_eq_true] at *
 simp_all
def wR : Option Pat→AV
 | none=>.agg (bool true :: Pat0.enc.cells)
 | some p=>.agg (bool false :: p.enc.cells)
theorem xi (r:Option Pat):(wR r).closed=true:=by
 have key:∀ (b:Bool) (p:Pat),(AV.agg (bool b :: p.enc.cells)).closed=true:=fun b p=>by
  obtain ⟨pO,pA,pT,pV,pS,pN,pCo,pCa,pCv,pCf,pCk,pXk,pXn,pXt,hx⟩:=Pat.form p
  have:=Pat.closed p
  rw [hx] at this ⊢
  simpa [AV.cells,AV.closed,AV.closedL] using this
 cases r with
 | none=>exact key _ _
 | some p=>exact key _ _
def xM (op:Int):List Pat→Pat
 | [q]=>q
 | l=>.mk op l 0 0 0 0 Ex0
def uj (r:Option Pat) (more:List Pat):Option Pat :=
 match r.toList++more with
 | []=>none
 | l=>some (xM 1 l)
def tC (args:List Pat) (i:Nat) (r:Option Pat):Option Pat :=
 some (xM 3 (match r with
  | none=>args.eraseIdx i
  | some q=>args.set i q))
def vI (p:Pat) (x:Ed) (done opens:Bool):Ed :=
 let x1:=if opens then { x with opens:=p.scope :: x.opens } else x
 let x2:=if p.op=5∨p.op=9 then { x1 with inside:=p.scope :: x1.inside } else { x1 with limits:=(p.scope,p.span) :: x1.limits }
 if done then { x2 with closes:=x2.closes++[p.scope] } else x2
def tH (again:Pat) (y:Ed × Option Pat):List (Ed × Option Pat) :=
 match y.2 with
 | some q=>[(y.1,some (.mk 8 [q,again.args.headD Pat0] 0 0 0 0 Ex0))]
 | none=>[(y.1,none),(y.1,some again)]
def uF (p:Pat) (y:Ed × Option Pat):Ed :=
 if p.op=7 then (if y.2.isNone then { y.1 with checks:=y.1.checks++[p.cond] } else y.1)
 else if p.op=5∨p.op=9 then vI p y.1 y.2.isNone (decide (p.op=5)) else vI p y.1 y.2.isNone (decide (p.op=6))
def innerOp (p:Pat):Int:=if p.op=7 then 7 else if p.op=5∨p.op=9 then 9 else 10
def innerO (p:Pat) (y:Ed × Option Pat):Ed × Option Pat :=
 (uF p y,y.2.map fun q=>.mk (innerOp p) [q] p.ty p.var p.scope p.span p.cond)
def s6 (args:List Pat):Nat→List (List (Ed × Option Pat))→List (Ed × Option Pat)
 | _,[]=>[]
 | i,l :: r=>l.map (fun y=>(y.1,tC args i y.2))++s6 args (i+1) r
def tD (p:Pat) (l:List (List (Ed × Option Pat))):List (Ed × Option Pat) :=
 if p.op=0 then [(⟨0,0,p.var,p.ty,p.cond,[],[],[],[],[]⟩,none)]
 else if p.op=1 then (l.headD []).map fun y=>(y.1,uj y.2 (p.args.drop 1))
 else if p.op=2 then l.flatten
 else if p.op=3 then s6 p.args 0 l
 else if p.op=4 then (l.headD []).flatMap (tH p)
 else if p.op=8 then (l.headD []).flatMap (tH (.mk 4 ((p.args.drop 1).take 1) 0 0 0 0 Ex0))
 else (l.headD []).map (innerO p)
mutual
def Pat.outs : Pat→List (Ed × Option Pat)
 | .mk o a t v s n c=>tD (.mk o a t v s n c) (Pat.outsL a)
def Pat.outsL : List Pat→List (List (Ed × Option Pat))
 | []=>[]
 | q :: r=>q.outs :: Pat.outsL r
end
theorem Pat.outsL_eq : ∀ l:List Pat,Pat.outsL l=l.map Pat.outs
 | []=>rfl
 | q :: r=>by rw [Pat.outsL,Pat.outsL_eq r,List.map_cons]
theorem Pat.outs_eq (p:Pat):p.outs=tD p (p.args.map Pat.outs):=by
 cases p;rw [Pat.outs,Pat.outsL_eq];rfl
def wM (y:Ed × Option Pat):List AV:=[y.1.enc,wR y.2]
theorem outA_closed (y:Ed × Option Pat):AV.closedL (wM y)=true:=by simp [wM,AV.closedL,Ed.closed,xi]
def x9 : Int→List Pat→Pat→Int
 | _,[],_=>-1
 | i,q :: r,p=>if eqB p q then i else x9 (i+1) r p
end Go.Am
end
noncomputable section
set_option maxHeartbeats 16000000
namespace Go.Am
structure Bd (n:Nat) (E:Ex→Prop) (y:Ed × Option Pat):Prop where
 opens:y.1.opens.length≤n
 closes:y.1.closes.length≤n
 checks:y.1.checks.length≤n
 limits:y.1.limits.length≤n
 inside:y.1.inside.length≤n
 cond:E y.1.cond
 chk:∀ c∈y.1.checks,E c
 cnt:∀ q,y.2=some q→q.cnt≤n * n
 exs:∀ q,y.2=some q→∀ c∈q.exs,E c
theorem Pat.exsL_mem {c:Ex}:∀ {l:List Pat},c∈Pat.exsL l→∃ q∈l,c∈q.exs
 | [],h=>by simp [Pat.exsL] at h
 | q :: r,h=>by
  rw [Pat.exsL,List.mem_append] at h
  rcases h with h | h
  · exact ⟨q,by simp,h⟩
  obtain ⟨z,h1,h2⟩:=Pat.exsL_mem h
  exact ⟨z,by simp [h1],h2⟩
theorem Pat.cntL_erase : ∀ (l:List Pat) (i:Nat),Pat.cntL (l.eraseIdx i)≤Pat.cntL l
 | [],i=>by simp [Pat.cntL]
 | q :: r,0=>by simp [Pat.cntL]
 | q :: r,i+1=>by have:=Pat.cntL_erase r i;simp [Pat.cntL];omega
theorem Pat.cntL_set : ∀ (l:List Pat) (i:Nat) (z:Pat),Pat.cntL (l.set i z)+(l[i]?.map Pat.cnt).getD z.cnt≤Pat.cntL l+z.cnt
 | [],i,z=>by simp [Pat.cntL]
 | q :: r,0,z=>by simp [Pat.cntL];omega
 | q :: r,i+1,z=>by have:=Pat.cntL_set r i z;simp [Pat.cntL] at this ⊢;omega
theorem listP_cnt (op:Int) (l:List Pat):(xM op l).cnt≤1+Pat.cntL l:=by
 match l with
 | []=>simp [xM,Pat.cnt]
 | [q]=>simp [xM,Pat.cntL]
 | a :: b :: r=>simp [xM,Pat.cnt]
theorem listP_exs (op:Int) (l:List Pat) (c:Ex) (h:c∈(xM op l).exs):c=Ex0∨∃ q∈l,c∈q.exs:=by
 match l,h with
 | [],h=>simp [xM,Pat.exs,Pat.exsL] at h;exact .inl h
 | [q],h=>exact .inr ⟨q,by simp,h⟩
 | a :: b :: r,h =>
  simp only [xM,Pat.exs,List.mem_cons] at h
  rcases h with h | h
  · exact .inl h
  exact .inr (Pat.exsL_mem h)
theorem scoped_bd {p:Pat} {x:Ed} {d o:Bool} {n:Nat} (h1:x.opens.length≤n) (h2:x.closes.length≤n) (h3:x.limits.length≤n) (h4:x.inside.length≤n) :
 (vI p x d o).opens.length≤n+1∧(vI p x d o).closes.length≤n+1∧(vI p x d o).limits.length≤n+1∧(vI p x d o).inside.length≤n+1∧(vI p x d o).cond=x.cond∧(vI p x d o).checks=x.checks:=by
 unfold vI
 cases d<;>cases o<;>by_cases h:p.op=5∨p.op=9<;>simp [h]<;>omega
theorem tI (a b m:Nat) (h:a+b+1≤m):1+a * a+b≤m * m:=by
 have h1:(a+b+1) * (a+b+1)≤m * m:=Nat.mul_le_mul h h
 have h2:(a+b+1) * (a+b+1)=a * a+2 * (a * b)+b * b+2 * a+2 * b+1:=by
  simp only [Nat.add_mul,Nat.mul_add,Nat.mul_comm b a];omega
 have h3:0≤b * b:=Nat.zero_le _
 omega
theorem Bd.mono {n m:Nat} {E E':Ex→Prop} {y:Ed × Option Pat} (h:Bd n E y) (hn:n≤m) (hE:∀ c,E c→E' c):Bd m E' y :=
 ⟨Nat.le_trans h.opens hn,Nat.le_trans h.closes hn,Nat.le_trans h.checks hn,Nat.le_trans h.limits hn,Nat.le_trans h.inside hn,hE _ h.cond,fun c hc=>hE c (h.chk c hc),
  fun q hq=>Nat.le_trans (h.cnt q hq) (Nat.mul_le_mul hn hn),fun q hq c hc=>hE c (h.exs q hq c hc)⟩
theorem Bd.rest {n:Nat} {E:Ex→Prop} {y:Ed × Option Pat} {r:Option Pat} (h:Bd n E y) (h1:∀ q,r=some q→q.cnt≤n * n) (h2:∀ q,r=some q→∀ c∈q.exs,E c):Bd n E (y.1,r) :=
 ⟨h.opens,h.closes,h.checks,h.limits,h.inside,h.cond,h.chk,h1,h2⟩
theorem joinL_mem {args:List Pat} {z:Ed × Option Pat}:∀ {i:Nat} {l:List (List (Ed × Option Pat))},z∈s6 args i l→∃ j m y,l[j]? = some m∧y∈m∧z=(y.1,tC args (i+j) y.2)
 | i,[],h=>by simp [s6] at h
 | i,l :: r,h=>by
  rw [s6,List.mem_append,List.mem_map] at h
  rcases h with ⟨y,h1,rfl⟩ | h
  · exact ⟨0,l,y,rfl,h1,rfl⟩
  obtain ⟨j,m,y,h1,h2,rfl⟩:=joinL_mem h
  exact ⟨j+1,m,y,by simpa using h1,h2,by rw [Nat.add_assoc,Nat.add_comm 1 j]⟩
theorem headD_mem {α β:Type} {f:α→List β} {a:List α} {y:β} (h:y∈(a.map f).headD []):∃ q r,a=q :: r∧y∈f q:=by
 cases a with
 | nil=>simp at h
 | cons q r=>exact ⟨q,r,rfl,by simpa using h⟩
theorem outs_bd : ∀ p:Pat,∀ y∈p.outs,Bd p.cnt (fun c=>c∈p.exs∨c=Ex0) y:=Pat.ind fun o a t v s n c ih=>by
 intro y hy
 rw [Pat.outs_eq] at hy
 have hcnt:(Pat.mk o a t v s n c).cnt=1+Pat.cntL a:=rfl
 have hexs:(Pat.mk o a t v s n c).exs=c :: Pat.exsL a:=rfl
 have hin:∀ q∈a,∀ e,(e∈q.exs∨e=Ex0)→(e∈(Pat.mk o a t v s n c).exs∨e=Ex0):=fun q hq e he=>he.imp (fun h=>by rw [hexs];exact List.mem_cons_of_mem _ (Pat.exs_mem h hq)) id
 have hup:∀ q∈a,∀ y∈q.outs,Bd (Pat.mk o a t v s n c).cnt (fun e=>e∈(Pat.mk o a t v s n c).exs∨e=Ex0) y:=fun q hq y hy=>(ih q hq y hy).mono (by rw [hcnt];have:=Pat.cnt_mem hq;omega) (hin q hq)
 have e1:(Pat.mk o a t v s n c).op=o:=rfl
 have e2:(Pat.mk o a t v s n c).args=a:=rfl
 unfold tD at hy
 rw [e1,e2] at hy
 by_cases h0:o=0
 · rw [if_pos h0] at hy
   simp only [List.mem_singleton] at hy
   subst hy
   refine ⟨by simp,by simp,by simp,by simp,by simp,?_,by simp,(by intro q hq;cases hq),(by intro q hq;cases hq)⟩
   exact .inl (by rw [hexs];exact List.mem_cons_self)
 rw [if_neg h0] at hy
 by_cases h1:o=1
 · rw [if_pos h1] at hy
   -- one after another
   obtain ⟨z,hz,rfl⟩:=List.mem_map.1 hy
   obtain ⟨q,r,rfl,hz⟩:=headD_mem hz
   have hq:=ih q (by simp) z hz
   refine (hup q (by simp) z hz).rest (fun w hw=>?_) (fun w hw e he=>?_)
   · simp only [List.drop_succ_cons,List.drop_zero,uj] at hw
     split at hw
     · cases hw
     cases hw
     refine Nat.le_trans (listP_cnt _ _) ?_
     rw [Pat.cntL_append,hcnt]
     cases hz2:z.2 with
     | none =>
      simp only [Option.toList,Pat.cntL]
      have:=tI q.cnt (Pat.cntL r) (1+(q.cnt+Pat.cntL r)) (by omega)
      omega
     | some w =>
      have h5:=hq.cnt w hz2
      simp only [Option.toList,Pat.cntL]
      have:=tI q.cnt (Pat.cntL r) (1+(q.cnt+Pat.cntL r)) (by omega)
      omega
   simp only [List.drop_succ_cons,List.drop_zero,uj] at hw
   split at hw
   · cases hw
   cases hw
   rcases listP_exs _ _ _ he with rfl | ⟨w,hw,he⟩
   · exact .inr rfl
   rw [List.mem_append] at hw
   rcases hw with hw | hw
   · exact hin q (by simp) e (hq.exs w (by cases hz2:z.2 with | none=>rw [hz2] at hw;simp at hw | some u=>rw [hz2] at hw;simp at hw;rw [hw]) e he)
   exact .inl (by rw [hexs];exact List.mem_cons_of_mem _ (Pat.exs_mem he (by simp [hw])))
 rw [if_neg h1] at hy
 by_cases h2:o=2
 · rw [if_pos h2] at hy
   -- either
   obtain ⟨m,hm,hy⟩:=List.mem_flatten.1 hy
   obtain ⟨q,hq,rfl⟩:=List.mem_map.1 hm
   exact hup q hq y hy
 rw [if_neg h2] at hy
 by_cases h3:o=3
 · rw [if_pos h3] at hy
   -- all
   obtain ⟨j,m,z,h1,h2,rfl⟩:=joinL_mem hy
   rw [List.getElem?_map] at h1
   obtain ⟨q,hqj,rfl⟩:=Option.map_eq_some_iff.1 h1
   have hqa:=List.mem_of_getElem? hqj
   have hq:=ih q hqa z h2
   refine (hup q hqa z h2).rest (fun w hw=>?_) (fun w hw e he=>?_)
   · simp only [tC,Option.some.injEq] at hw
     subst hw
     refine Nat.le_trans (listP_cnt _ _) ?_
     rw [hcnt]
     cases hz2:z.2 with
     | none =>
      dsimp only
      have h5:=Pat.cntL_erase a (0+j)
      have h6:1+Pat.cntL a≤(1+Pat.cntL a) * (1+Pat.cntL a):=Nat.le_mul_of_pos_left _ (by omega)
      omega
     | some u =>
      dsimp only
      have h5:=Pat.cntL_set a (0+j) u
      rw [Nat.zero_add,hqj] at h5
      simp only [Option.map_some,Option.getD_some] at h5
      have h6:=hq.cnt u hz2
      have h7:=Pat.cnt_mem hqa
      rw [Nat.zero_add]
      have:=tI q.cnt (Pat.cntL a - q.cnt) (1+Pat.cntL a) (by omega)
      omega
   simp only [tC,Option.some.injEq] at hw
   subst hw
   rcases listP_exs _ _ _ he with rfl | ⟨w,hw,he⟩
   · exact .inr rfl
   cases hz2:z.2 with
   | none =>
    rw [hz2] at hw
    exact .inl (by rw [hexs];exact List.mem_cons_of_mem _ (Pat.exs_mem he (List.mem_of_mem_eraseIdx hw)))
   | some u =>
    rw [hz2] at hw
    rcases List.mem_or_eq_of_mem_set hw with hw | rfl
    · exact .inl (by rw [hexs];exact List.mem_cons_of_mem _ (Pat.exs_mem he hw))
    exact hin q hqa e (hq.exs _ hz2 e he)
 rw [if_neg h3] at hy
 by_cases h4:o=4
 · rw [if_pos h4] at hy
   -- once or more
   obtain ⟨z,hz,hy⟩:=List.mem_flatMap.1 hy
   obtain ⟨q,r,rfl,hz⟩:=headD_mem hz
   have hq:=ih q (by simp) z hz
   have hu:=hup q (by simp) z hz
   unfold tH at hy
   cases hz2:z.2 with
   | some u =>
    rw [hz2] at hy
    simp only [List.mem_singleton] at hy
    subst hy
    have h6:=hq.cnt u hz2
    refine hu.rest (fun w hw=>?_) (fun w hw e he=>?_)
    · cases hw
      simp only [Pat.cnt,Pat.cntL,Pat.args,List.headD_cons]
      have:=tI q.cnt q.cnt (1+(q.cnt+q.cnt)) (by omega)
      have h8:(1+(q.cnt+Pat.cntL r)) * (1+(q.cnt+Pat.cntL r)) ≥ (1+q.cnt) * (1+q.cnt):=Nat.mul_le_mul (by omega) (by omega)
      have h9:(1+q.cnt) * (1+q.cnt)=1+2 * q.cnt+q.cnt * q.cnt:=by simp only [Nat.add_mul,Nat.mul_add];omega
      omega
    cases hw
    simp only [Pat.exs,Pat.exsL,Pat.args,List.headD_cons,List.append_nil,List.mem_cons,List.mem_append] at he
    rcases he with rfl | he | he
    · exact .inr rfl
    · exact hin q (by simp) e (hq.exs u hz2 e he)
    exact hin q (by simp) e (.inl he)
   | none =>
    rw [hz2] at hy
    simp only [List.mem_cons,List.not_mem_nil,or_false] at hy
    rcases hy with rfl | rfl
    · exact hu.rest (fun w hw=>by cases hw) (fun w hw=>by cases hw)
    refine hu.rest (fun w hw=>?_) (fun w hw e he=>?_)
    · cases hw
      exact Nat.le_mul_of_pos_left _ (by rw [hcnt];omega)
    cases hw;exact .inl he
 rw [if_neg h4] at hy
 by_cases h8:o=8
 · rw [if_pos h8] at hy
   -- more
   obtain ⟨z,hz,hy⟩:=List.mem_flatMap.1 hy
   obtain ⟨q,r,rfl,hz⟩:=headD_mem hz
   have hq:=ih q (by simp) z hz
   have hu:=hup q (by simp) z hz
   have hag:∀ e,e∈(Pat.mk 4 (((q :: r).drop 1).take 1) 0 0 0 0 Ex0).exs→(e∈(Pat.mk o (q :: r) t v s n c).exs∨e=Ex0):=fun e he=>by
    rw [Pat.exs,List.mem_cons] at he
    rcases he with rfl | he
    · exact .inr rfl
    obtain ⟨w,hw,he⟩:=Pat.exsL_mem he
    have:w∈q :: r:=by simp at hw;exact List.mem_cons_of_mem _ (List.mem_of_mem_take hw)
    exact .inl (by rw [hexs];exact List.mem_cons_of_mem _ (Pat.exs_mem he this))
   have hac:(Pat.mk 4 (((q :: r).drop 1).take 1) 0 0 0 0 Ex0).cnt≤1+Pat.cntL r:=by
    cases r with
    | nil=>simp [Pat.cnt,Pat.cntL]
    | cons a b=>simp [Pat.cnt,Pat.cntL]
   unfold tH at hy
   cases hz2:z.2 with
   | some u =>
    rw [hz2] at hy
    simp only [List.mem_singleton] at hy
    subst hy
    have h6:=hq.cnt u hz2
    refine hu.rest (fun w hw=>?_) (fun w hw e he=>?_)
    · cases hw
      have h5:((((q :: r).drop 1).take 1).headD Pat0).cnt≤1+Pat.cntL r:=by
       cases r with
       | nil=>simp [Pat0,Pat.cnt,Pat.cntL]
       | cons a b=>simp [Pat.cntL];omega
      simp only [Pat.cnt,Pat.cntL,Pat.args] at h5 ⊢
      have h8:(1+(q.cnt+Pat.cntL r)) * (1+(q.cnt+Pat.cntL r))=1+2 * q.cnt+2 * Pat.cntL r+q.cnt * q.cnt+2 * (q.cnt * Pat.cntL r)+Pat.cntL r * Pat.cntL r:=by
       simp only [Nat.add_mul,Nat.mul_add,Nat.mul_comm (Pat.cntL r) q.cnt];omega
      have h9:=Pat.cnt_pos q
      omega
    cases hw
    simp only [Pat.exs,Pat.exsL,Pat.args,List.append_nil,List.mem_cons,List.mem_append] at he
    rcases he with rfl | he | he
    · exact .inr rfl
    · exact hin q (by simp) e (hq.exs u hz2 e he)
    cases r with
    | nil=>simp [Pat0,Pat.exs,Pat.exsL] at he;exact .inr he
    | cons a b =>
     simp at he
     exact hin a (by simp) e (.inl he)
   | none =>
    rw [hz2] at hy
    simp only [List.mem_cons,List.not_mem_nil,or_false] at hy
    rcases hy with rfl | rfl
    · exact hu.rest (fun w hw=>by cases hw) (fun w hw=>by cases hw)
    refine hu.rest (fun w hw=>?_) (fun w hw e he=>?_)
    · cases hw
      refine Nat.le_trans hac ?_
      rw [hcnt]
      simp only [Pat.cntL]
      have:=tI q.cnt (Pat.cntL r) (1+(q.cnt+Pat.cntL r)) (by omega)
      omega
    cases hw;exact hag e he
 rw [if_neg h8] at hy
 -- one argument
 obtain ⟨z,hz,rfl⟩:=List.mem_map.1 hy
 obtain ⟨q,r,rfl,hz⟩:=headD_mem hz
 have hq:=ih q (by simp) z hz
 have hcq:q.cnt+1≤(Pat.mk o (q :: r) t v s n c).cnt:=by rw [hcnt];simp only [Pat.cntL];omega
 have hr:∀ w,(innerO (.mk o (q :: r) t v s n c) z).2=some w→w.cnt≤(Pat.mk o (q :: r) t v s n c).cnt * (Pat.mk o (q :: r) t v s n c).cnt∧∀ e∈w.exs,e∈(Pat.mk o (q :: r) t v s n c).exs∨e=Ex0:=by
  intro w hw
  simp only [innerO] at hw
  obtain ⟨u,hu,rfl⟩:=Option.map_eq_some_iff.1 hw
  have h6:=hq.cnt u hu
  refine ⟨?_,fun e he=>?_⟩
  · simp only [Pat.cnt,Pat.cntL]
    have:=tI q.cnt (Pat.cntL r) (1+(q.cnt+Pat.cntL r)) (by omega)
    omega
  simp only [Pat.exs,Pat.exsL,Pat.cond,List.append_nil,List.mem_cons] at he
  rcases he with rfl | he
  · exact .inl (by rw [hexs];exact List.mem_cons_self)
  exact hin q (by simp) e (hq.exs u hu e he)
 have hc1:(e:Ex)→e∈z.1.checks→e∈(Pat.mk o (q :: r) t v s n c).exs∨e=Ex0:=fun e he=>hin q (by simp) e (hq.chk e he)
 have hc2:=hin q (by simp) _ hq.cond
 have h:=@scoped_bd (.mk o (q :: r) t v s n c) z.1 z.2.isNone
 have hX:(uF (.mk o (q :: r) t v s n c) z).opens.length≤q.cnt+1∧(uF (.mk o (q :: r) t v s n c) z).closes.length≤q.cnt+1∧(uF (.mk o (q :: r) t v s n c) z).limits.length≤q.cnt+1∧(uF (.mk o (q :: r) t v s n c) z).inside.length≤q.cnt+1 ∧
  (uF (.mk o (q :: r) t v s n c) z).cond=z.1.cond∧(uF (.mk o (q :: r) t v s n c) z).checks.length≤q.cnt+1∧∀ e∈(uF (.mk o (q :: r) t v s n c) z).checks,e∈z.1.checks∨e=c:=by
  have b1:=hq.opens;have b2:=hq.closes;have b3:=hq.checks;have b4:=hq.limits;have b5:=hq.inside
  unfold uF
  split
  · split
    · refine ⟨by dsimp only;omega,by dsimp only;omega,by dsimp only;omega,by dsimp only;omega,rfl,by simp;omega,fun e he=>?_⟩
      simp only [List.mem_append,List.mem_singleton] at he
      exact he.imp id (fun h=>by rw [h];rfl)
    exact ⟨by omega,by omega,by omega,by omega,rfl,by omega,fun e he=>.inl he⟩
  split
  · obtain ⟨g1,g2,g3,g4,g5,g6⟩:=h (o:=decide ((Pat.mk o (q :: r) t v s n c).op=5)) b1 b2 b4 b5
    exact ⟨g1,g2,g3,g4,g5,by rw [g6];omega,fun e he=>.inl (by rwa [g6] at he)⟩
  obtain ⟨g1,g2,g3,g4,g5,g6⟩:=h (o:=decide ((Pat.mk o (q :: r) t v s n c).op=6)) b1 b2 b4 b5
  exact ⟨g1,g2,g3,g4,g5,by rw [g6];omega,fun e he=>.inl (by rwa [g6] at he)⟩
 obtain ⟨x1,x2,x3,x4,x5,x6,x7⟩:=hX
 refine ⟨Nat.le_trans x1 hcq,Nat.le_trans x2 hcq,Nat.le_trans x6 hcq,Nat.le_trans x3 hcq,Nat.le_trans x4 hcq,?_,fun e he=>?_,fun w hw=>(hr w hw).1,fun w hw=>(hr w hw).2⟩
 · show _∈_∨_
   have:(innerO (.mk o (q :: r) t v s n c) z).1.cond=z.1.cond:=x5
   rw [this];exact hc2
 rcases x7 e he with h | rfl
 · exact hc1 e h
 exact .inl (by rw [hexs];exact List.mem_cons_self)
end Go.Am
end
noncomputable section
set_option maxHeartbeats 16000000
namespace Go.Am
def uP (x y:Ed):Bool:=eqB { x with frm:=0,to:=0 } { y with frm:=0,to:=0 }
def tB (R:List Pat):Option Pat→Int
 | none=>-1
 | some q=>if x9 0 R q<0 then (R.length:Int) else x9 0 R q
def xW (R:List Pat):Option Pat→List Pat
 | none=>R
 | some q=>if x9 0 R q<0 then R++[q] else R
def vU (R:List Pat):Option Pat→Bool
 | none=>false
 | some q=>decide (x9 0 R q<0) && decide (q.chkR≠0)
def tm (S:List Ed × List Pat) (y:Ed × Option Pat):Option (List Ed × List Pat) :=
 if vU S.2 y.2=true then none
 else if (S.1.any fun z=>decide (tB S.2 y.2=z.to) && uP { y.1 with to:=tB S.2 y.2 } z)=true then some (S.1,xW S.2 y.2)
 else if 2048<S.1.length+1 then none
 else some (S.1++[{ y.1 with to:=tB S.2 y.2 }],xW S.2 y.2)
def um : List (Ed × Option Pat)→List Ed × List Pat→Option (List Ed × List Pat)
 | [],S=>some S
 | y :: r,S=>match tm S y with
  | none=>none
  | some S'=>um r S'
def Pat.der (p:Pat):Option (List Ed × List Pat):=um p.outs ([],[])
theorem derL_append : ∀ (a b:List (Ed × Option Pat)) (S:List Ed × List Pat),um (a++b) S=(um a S).bind (um b)
 | [],b,S=>rfl
 | y :: r,b,S=>by
  rw [List.cons_append,um,um]
  cases tm S y with
  | none=>rfl
  | some S'=>exact derL_append r b S'
structure Gd where
 scope:Int
 ty:Int
 var:Int
 cond:Ex
def Gd.enc (x:Gd):AV:=.agg ([int x.scope,int x.ty,int x.var]++x.cond.enc.cells)
theorem Gd.form (x:Gd):∃ co ec cv cf ck xk xn xt,x.enc=.agg [int x.scope,int x.ty,int x.var,int co,.isl 8 ec,int cv,int cf,int ck,int xk,int xn,str xt]∧x.cond.enc=.agg [int co,.isl 8 ec,int cv,int cf,int ck,int xk,int xn,str xt]:=by
 obtain ⟨co,ec,cv,cf,ck,xk,xn,xt,h⟩:=Ex.form x.cond
 exact ⟨co,ec,cv,cf,ck,xk,xn,xt,by rw [Gd.enc,h];rfl,h⟩
theorem Gd.closed (x:Gd):x.enc.closed=true:=by
 obtain ⟨co,ec,cv,cf,ck,xk,xn,xt,h,hc⟩:=x.form
 have hcl:=Ex.closed x.cond
 rw [hc] at hcl
 rw [h]
 simpa [AV.closed,AV.closedL] using hcl
def rY (p:Pat) (l:List (List Gd)):List Gd :=
 if p.op=1∨p.op=8∨p.op=10∨p.op=7 then l.headD []
 else if p.op=3 then l.flatten
 else if p.op=9 then ⟨p.scope,p.ty,p.var,p.cond⟩ :: l.headD []
 else []
mutual
def Pat.act : Pat→List Gd
 | .mk o a t v s n c=>rY (.mk o a t v s n c) (Pat.actL a)
def Pat.actL : List Pat→List (List Gd)
 | []=>[]
 | q :: r=>q.act :: Pat.actL r
end
theorem Pat.actL_eq : ∀ l:List Pat,Pat.actL l=l.map Pat.act
 | []=>rfl
 | q :: r=>by rw [Pat.actL,Pat.actL_eq r,List.map_cons]
theorem Pat.act_eq (p:Pat):p.act=rY p (p.args.map Pat.act):=by
 cases p;rw [Pat.act,Pat.actL_eq];rfl
def wQ (out:List Pat):List Pat→List Pat
 | []=>out
 | r :: l=>wQ (if x9 0 out r<0 then out++[r] else out) l
def sC : Nat→List Pat→Nat→Option (List Pat)
 | 0,out,_=>some out
 | f+1,out,i=>match out[i]? with
  | none=>some out
  | some q=>match q.der with
   | none=>none
   | some S=>if 256<(wQ out S.2).length then none else sC f (wQ out S.2) (i+1)
def Pat.res (p:Pat):Option (List Pat):=sC 257 [p] 0
end Go.Am
end
noncomputable section
set_option maxHeartbeats 16000000
namespace Go.Am
def orE (a b:Int):Int:=if a≠0 then a else b
theorem we (b:Int):orE 0 b=b:=by simp [orE]
theorem vS {a:Int} (b:Int) (h:a≠0):orE a b=a:=by simp [orE,h]
def sj {α:Type} (f:List α→α→Int):List α→List α→Int
 | _,[]=>0
 | d,x :: r=>orE (f d x) (sj f (d++[x]) r)
def inN (i n:Int):Bool:=decide (0≤i) && decide (i<n)
structure Au where
 vars:Int
 scopes:Int
 states:List (List Gd)
 edges:List Ed
def stE (l:List Gd):AV:=.agg [.isl 11 (zy Gd.enc l)]
theorem stE_eq (l:List Gd):stE l=.agg [.isl 11 (zy Gd.enc l)]:=rfl
theorem Gd.closedI (l:List Gd):(AV.isl 11 (zy Gd.enc l)).closed=true:=yU Gd.closed l
theorem Ed.closedI (l:List Ed):(AV.isl 17 (zy Ed.enc l)).closed=true:=yU Ed.closed l
theorem stE_closed (l:List Gd):(stE l).closed=true:=by
 have:=Gd.closedI l
 simpa [stE,AV.closed,AV.closedL] using this
theorem stE_closedI (l:List (List Gd)):(AV.isl 1 (zy stE l)).closed=true:=yU stE_closed l
def Au.enc (a:Au):AV:=.agg [int a.vars,int a.scopes,.isl 1 (zy stE a.states),.isl 17 (zy Ed.enc a.edges)]
theorem Au.enc_eq (a:Au):a.enc=.agg [int a.vars,int a.scopes,.isl 1 (zy stE a.states),.isl 17 (zy Ed.enc a.edges)]:=rfl
theorem Au.closed (a:Au):a.enc.closed=true:=by
 have h1:=stE_closedI a.states
 have h2:=Ed.closedI a.edges
 simp only [Au.enc,AV.closed,AV.closedL,Bool.and_true,Bool.true_and,Bool.and_eq_true] at *
 simp_all
theorem Au.closedI (l:List Au):(AV.isl 4 (zy Au.enc l)).closed=true:=yU Au.closed l
def gdE (a:Au) (d:List Gd) (g:Gd):Int :=
 if (inN g.scope a.scopes && inN g.ty 16 && inN g.var a.vars)=false then 2 else if d.any (fun h=>decide (h.scope=g.scope)) then 7 else g.cond.chk
def rg (a:Au) (l:List Gd):Int:=if 64<l.length then 5 else sj (gdE a) [] l
def scE (n:Int) (d:List Int) (s:Int):Int:=if inN s n=false then 2 else if decide (s∈d) then 7 else 0
def sD (n:Int) (l:List Int):Int:=sj (scE n) [] l
def sk (l:List (Int × Int)):Bool:=l.any fun x=>!inN x.2 1099511627777
def edE (a:Au) (b:Int) (x:Ed):Int :=
 if (inN x.frm a.states.length && decide (-1≤x.to) && decide (x.to<a.states.length) && inN x.var a.vars && inN x.ty 16)=false then 2
 else if x.frm<b then 14 else orE x.cond.chk (if 64<x.checks.length then 5 else orE (zU Ex.chk x.checks) (orE (zU (sD a.scopes) [x.opens,x.closes,x.inside,x.limits.map (·.1)]) (if sk x.limits then 2 else 0)))
def rr (a:Au):Int→List Ed→Int
 | _,[]=>0
 | b,x :: r=>orE (edE a b x) (rr a x.frm r)
def Au.chk (a:Au):Int :=
 if (inN a.vars 17 && inN a.scopes 65)=false then 2
 else if a.states.length<1∨256<a.states.length∨2048<a.edges.length then 5
 else orE (zU (rg a) a.states) (rr a 0 a.edges)
structure Tl where
 query:Int
 vars:List Int
 whole:Bool
 state:Int
def Tl.enc (t:Tl):AV:=.agg [int t.query,.isl 1 (zy int t.vars),bool t.whole,int t.state]
theorem Tl.enc_eq (t:Tl):t.enc=.agg [int t.query,.isl 1 (zy int t.vars),bool t.whole,int t.state]:=rfl
theorem Tl.closed (t:Tl):t.enc.closed=true:=by
 have:=zQ t.vars
 simpa [Tl.enc,AV.closed,AV.closedL] using this
theorem Tl.closedI (l:List Tl):(AV.isl 4 (zy Tl.enc l)).closed=true:=yU Tl.closed l
structure Br where
 parent:Int
 ty:Int
 cond:Ex
 queries:List Tl
def Br.enc (x:Br):AV:=.agg ([int x.parent,int x.ty]++x.cond.enc.cells++[.isl 4 (zy Tl.enc x.queries)])
theorem Br.form (x:Br):∃ co ec cv cf ck xk xn xt,x.enc=.agg [int x.parent,int x.ty,int co,.isl 8 ec,int cv,int cf,int ck,int xk,int xn,str xt,.isl 4 (zy Tl.enc x.queries)]∧x.cond.enc=.agg [int co,.isl 8 ec,int cv,int cf,int ck,int xk,int xn,str xt]:=by
 obtain ⟨co,ec,cv,cf,ck,xk,xn,xt,h⟩:=Ex.form x.cond
 exact ⟨co,ec,cv,cf,ck,xk,xn,xt,by rw [Br.enc,h];rfl,h⟩
theorem Br.closed (x:Br):x.enc.closed=true:=by
 obtain ⟨co,ec,cv,cf,ck,xk,xn,xt,h,hc⟩:=x.form
 have hcl:=Ex.closed x.cond
 rw [hc] at hcl
 rw [h]
 have h1:=Tl.closedI x.queries
 simp only [AV.closed,AV.closedL,Bool.and_true,Bool.true_and,Bool.and_eq_true] at *
 simp_all
theorem Br.closedI (l:List Br):(AV.isl 11 (zy Br.enc l)).closed=true:=yU Br.closed l
structure Nt where
 brs:List Br
 rest:List Au
def Nt.enc (n:Nt):AV:=.agg [.isl 11 (zy Br.enc n.brs),.isl 4 (zy Au.enc n.rest)]
theorem Nt.enc_eq (n:Nt):n.enc=.agg [.isl 11 (zy Br.enc n.brs),.isl 4 (zy Au.enc n.rest)]:=rfl
theorem Nt.closed (n:Nt):n.enc.closed=true:=by
 have h1:=Br.closedI n.brs
 have h2:=Au.closedI n.rest
 simp only [Nt.enc,AV.closed,AV.closedL,Bool.and_true,Bool.and_eq_true] at *
 exact ⟨h1,h2⟩
def upL (l:List Br):Nat→Int→List Int
 | 0,_=>[]
 | f+1,at'=>if at'≤0 then [] else at' :: upL l f ((l[at'.toNat]?.map Br.parent).getD 0)
def Dec (l:List Br) (m:Nat):Prop:=∀ i x,i<m→l[i]? = some x→x.parent<i
theorem upL_fuel {l:List Br} {m:Nat} (hd:Dec l m) (hm:m≤l.length):∀ (f g:Nat) (v:Int),v<m→v.toNat≤f→v.toNat≤g→upL l f v=upL l g v
 | 0,g,v,hv,h1,h2=>by
  have:v≤0:=by omega
  cases g with
  | zero=>rfl
  | succ g=>rw [upL,upL,if_pos this]
 | f+1,0,v,hv,h1,h2=>by
  have:v≤0:=by omega
  rw [upL,upL,if_pos this]
 | f+1,g+1,v,hv,h1,h2=>by
  by_cases h:v≤0
  · rw [upL,upL,if_pos h,if_pos h]
  rw [upL,upL,if_neg h,if_neg h]
  congr 1
  have hlt:v.toNat<l.length:=by omega
  rw [List.getElem?_eq_getElem hlt]
  have:=hd v.toNat l[v.toNat] (by omega) (List.getElem?_eq_getElem hlt)
  simp only [Option.map_some,Option.getD_some]
  exact upL_fuel hd hm f g _ (by omega) (by omega) (by omega)
def ups (l:List Br) (v:Int):List Int:=upL l (v.toNat+1) v
theorem tN {l:List Br} {v:Int} (h:v≤0):ups l v=[]:=by rw [ups,upL,if_pos h]
theorem ups_step {l:List Br} {m:Nat} (hd:Dec l m) (hm:m≤l.length) {v:Int} {x:Br} (h0:0<v) (hv:v<m) (hx:l[v.toNat]? = some x):ups l v=v :: ups l x.parent:=by
 have hp:=hd v.toNat x (by omega) hx
 rw [ups,upL,if_neg (by omega),hx]
 simp only [Option.map_some,Option.getD_some]
 congr 1
 exact upL_fuel hd hm _ _ _ (by omega) (by omega) (by omega)
theorem ups_len {l:List Br} {m:Nat} (hd:Dec l m) (hm:m≤l.length):∀ (n:Nat) (v:Int),v<m→v.toNat≤n→(ups l v).length≤n
 | 0,v,hv,hn=>by rw [tN (by omega)];exact Nat.le_refl _
 | n+1,v,hv,hn=>by
  by_cases h:v≤0
  · rw [tN h];simp
  have hlt:v.toNat<l.length:=by omega
  have hp:=hd v.toNat l[v.toNat] (by omega) (List.getElem?_eq_getElem hlt)
  rw [ups_step hd hm (by omega) hv (List.getElem?_eq_getElem hlt),List.length_cons]
  have:=ups_len hd hm n (l[v.toNat]).parent (by omega) (by omega)
  omega
def wJ (x b:Br):Bool:=decide (x.parent=b.parent) && decide (x.ty=b.ty) && eqB x.cond b.cond
def brE (l:List Br) (i:Nat) (b:Br):Int :=
 if i=0 then (if (decide (b.parent = -1) && decide (b.ty=0) && eqB b.cond Ex0)=true then 0 else 3)
 else if (inN b.parent i && inN b.ty 16)=false then 2
 else orE b.cond.chk (if 16<(ups l i).length then 12 else if ((l.take i).drop 1).any (fun x=>wJ x b) then 7 else 0)
def upto (n:Nat):List Int:=(List.range n).map fun (k:Nat)=>(k:Int)
def tlE (rest:List Au) (d:Nat) (seen:List Bool) (t:Tl):Int :=
 if inN t.query rest.length=false then 2
 else if seen.getD t.query.toNat false=true then 7
 else if eqB t.vars (upto d)=false then 14
 else if (if t.whole then decide (t.state≠0) else !inN t.state ((rest[t.query.toNat]?.map fun a=>a.states.length).getD 0))=true then 21 else 0
def ti (rest:List Au) (d:Nat):List Bool→List Tl→Int × List Bool
 | seen,[]=>(0,seen)
 | seen,t :: r=>if tlE rest d seen t≠0 then (tlE rest d seen t,seen) else ti rest d (seen.set t.query.toNat true) r
def t5 (n:Nt):Nat→List Bool→List Br→Int
 | _,seen,[]=>if seen.all id then 0 else 20
 | i,seen,b :: r=>orE (brE n.brs i b) (orE (ti n.rest (ups n.brs i).length seen b.queries).1 (t5 n (i+1) (ti n.rest (ups n.brs i).length seen b.queries).2 r))
def Nt.chk (n:Nt):Int :=
 if n.brs.length<1∨256<n.brs.length∨16<n.rest.length then 5
 else orE (zU Au.chk n.rest) (t5 n 0 (List.replicate n.rest.length false) n.brs)
end Go.Am
end
noncomputable section
set_option maxHeartbeats 16000000
set_option maxRecDepth 100000
namespace Go.Am
open Go.Proofs
theorem firstE_zero {α:Type} {F:α→Int} {l:List α} (h:zU F l=0):∀ q∈l,F q=0:=by
 induction l with
 | nil=>intro q hq;cases hq
 | cons x r ih =>
  intro q hq
  rw [zU] at h
  by_cases hx:F x=0
  · rw [if_neg (by simpa using hx)] at h
    rcases List.mem_cons.1 hq with rfl | hq
    · exact hx
    exact ih h q hq
  rw [if_pos hx] at h;exact absurd h hx
theorem Ex0.form : Ex0.enc=.agg [int 0,.isl 8 [],int 0,int 0,int 0,int 0,int 0,str ⟨#[]⟩]:=by rw [Ex0,Ex.enc_mk,zu];rfl
theorem closedL_app2 : ∀ {a b:List AV},AV.closedL (a++b)=true→AV.closedL a=true∧AV.closedL b=true
 | [],b,h=>⟨rfl,h⟩
 | x :: a,b,h=>by
  simp only [List.cons_append,AV.closedL,Bool.and_eq_true] at h ⊢
  have:=closedL_app2 h.2
  exact ⟨⟨h.1,this.1⟩,this.2⟩
theorem ovP {H:zz} {ea eb:List AV} {x0 x1:AV} (h0:SlOf 1 14 x0) (h1:SlOf 0 14 x1) (hka:H[1]? = some (.arr 14 ea)) (hkb:H[0]? = some (.arr 14 eb)) :
 ∀ K w ys,HRep EE K w H→VReps K H.length w [x0,x1] ys→∃ y,(callFunc 215 ys.toArray).run EE.P w=.ok (.value y) w∧VRep K H.length w (.val (.bool false)) y :=
 overlaps_own (fn:=Tryz.f215) (tS:=22) (tR:=4) rfl (by decide) rfl (by rfl) (by rfl) rfl rfl h0 h1 (by decide) hka hkb (by decide)
theorem C_InsertP (es:List AV) (x:AV) (i:Nat) (hi:i≤es.length) (hn:es.length<1000000) (hce:AV.closedL es=true) (hcx:x.closed=true) (hfe:wK 14 es=true) (hfx:wK 14 [x]=true) :
 ACall EE 209 [.sl 0 14 0 es.length,int i,.sl 1 14 0 1] [.arr 14 es,.arr 14 [x]] fun v' H'=>v'=.sl 2 14 0 (es.length+1)∧H'=[.dead,.dead,.arr 14 (es.take i++x :: es.drop i)]:=by
 refine zo ?_;unhygienic intros
 generalize hnl:es.length=n at *
 generalize hiI:(i:Int)=iI
 refine rB T209 [.t 6] ?_
 refine goA 0 ?_
 refine oC (fun h1=>?_) fun h1=>?_
 · exfalso
   simp [ee] at h1
 refine goA 0 ?_
 refine oC (fun h2=>?_) fun h2=>?_
 · simp [ee] at h2
   refine goA 0 ?_
   have hin:i=n:=by omega
   refine wo (F2:=[(6,.sl 2 14 0 (n+1))]) (H2:=[.dead,.dead,.arr 14 (es++[x])]) (tQ [.gone,.gone,.to 2] [some 0,some 1,some 2] ⟨rfl,rfl,trivial⟩ (by simp) (by simp) ⟨trivial,trivial,⟨by simp,rfl⟩,trivial⟩ ⟨.dead,.dead,zR (b:=2) rfl rfl rfl ?_ ?_,trivial⟩ ⟨.of ?_,trivial⟩) rfl ⟨rfl,?_⟩
   · simp [ee]
   · exact wg hce (zg hcx)
   · simp only [ee]
     rfl
   rw [hin,← hnl];simp
 simp [ee] at h2
 have hlt:i<n:=by omega
 refine on_cap 0 0 14 0 n rfl rfl (by omega) (by omega) (by simp) (fun c hc=>?_)
 have hJl:(es++List.replicate (c - n) (tE 14)).length=c:=by simp [hnl];omega
 have hJt:(es++List.replicate (c - n) (tE 14)).take n=es:=by rw [← hnl,List.take_left' rfl]
 have hcJ:AV.closedL (es++List.replicate (c - n) (tE 14))=true:=by
  refine wg hce ?_
  generalize c - n=q
  induction q with
  | zero=>rfl
  | succ q ih=>rw [List.replicate_succ];exact wg (a:=[tE 14]) rfl ih
 generalize es++List.replicate (c - n) (tE 14)=J at hJl hJt hcJ
 have hs1:iAdd .i64 (iOf n) (iOf 1)=(n:Int)+1:=by rw [e_iOf];exact uh e_iAdd (by simp [Wd.iOf];omega) (by simp [Wd.iOf];omega)
 have hs3:iAdd .i64 iI (iOf 1)=iI+1:=by rw [e_iOf];exact uh e_iAdd (by simp [Wd.iOf];omega) (by simp [Wd.iOf];omega)
 have hs2:iSub .i64 ((n:Int)+1) iI=(n:Int)+1 - iI:=by rw [e_iSub];simp [Wd.iSub,IntKind.wrap_i64];omega
 generalize hn1:(n:Int)+1=n1 at hs1 hs2
 generalize hi1:iI+1=i1 at hs3
 generalize hr:n1 - iI=r at hs2
 have hr2:r=((n+1 - i:Nat):Int):=by omega
 have f1:idxN 0 0=0:=by simp [ee]
 have f2:lenCut 0 iI=i:=by simp [ee];omega
 have f3:addN i (natOf r)=n+1:=by simp [ee];omega
 have f4:idxN 0 iI=i:=by simp [ee];omega
 have f5:lenCut iI (iOf (n+1))=n+1 - i:=by simp [ee];omega
 have f5b:lenCut iI n1=n+1 - i:=by simp [ee];omega
 have f6:partA [x] 0 1=[x]:=by simp [ee]
 have f6b:lenN [x]=1:=by simp [ee]
 have f7:minN 1 (n+1 - i)=1:=by simp [ee];omega
 have f8:idxN 0 i1=i+1:=by simp [ee];omega
 have f9:lenCut i1 (iOf (n+1))=n - i:=by simp [ee];omega
 have f10:lenCut iI (iOf n)=n - i:=by simp [ee];omega
 have f13:lenCut 0 n1=n+1:=by simp [ee];omega
 have f14:subN c 0=c:=by simp [ee]
 have hdl:(es.drop i).length=n - i:=by simp [hnl]
 have f11:partA J i (n - i)=es.drop i:=by
  simp only [ee]
  rw [← hJt,List.drop_take]
 have f15:partA J 0 i=es.take i:=by
  simp only [ee]
  rw [← hJt,List.drop_zero,List.take_take,Nat.min_eq_left hi]
 have f11b:lenN (es.drop i)=n - i:=by simp [ee];omega
 have f12:minN (n - i) (n - i)=n - i:=by simp [ee]
 have hfd:wK 14 (es.drop i)=true:=by
  rw [wK,List.all_eq_true] at hfe ⊢
  exact fun y hy=>hfe y (List.mem_of_mem_drop hy)
 have hft:wK 14 (es.take i)=true:=by
  rw [wK,List.all_eq_true] at hfe ⊢
  exact fun y hy=>hfe y (List.mem_of_mem_take hy)
 obtain ⟨z,hz⟩:∃ z,z=AV.agg [int 0,.val (.slice none 0 0),int 0,int 0,int 0,int 0,int 0,.val (.slice none 0 0),int 0,int 0,int 0,int 0,int 0,str ⟨#[]⟩]:=⟨_,rfl⟩
 have htl:(es.take i).length=i:=by simp [hnl];omega
 have hcB:AV.closedL (es.take i++x :: es.drop i)=true:=by
  rw [show es.take i++x :: es.drop i=es.take i++[x]++es.drop i by simp]
  have hc2:=hce
  rw [← List.take_append_drop i es] at hc2
  refine wg (wg ?_ (zg hcx)) ?_
  · exact (closedL_app2 hc2).1
  exact (closedL_app2 hc2).2
 have hA1:putA (catA (es.take i) (repA r z)) i 1 [x]=es.take i++x :: List.replicate (n - i) z:=by
  simp only [ee,putE]
  have hrn:r.toNat=n - i+1:=by omega
  rw [hrn,List.take_left' htl,List.replicate_succ,List.append_assoc,← List.drop_drop,List.drop_left' htl]
  rfl
 have hA2:putA (es.take i++x :: List.replicate (n - i) z) (i+1) (n - i) (es.drop i)=es.take i++x :: es.drop i:=by
  simp only [ee,putE]
  have g1:((es.take i++[x])++List.replicate (n - i) z).drop (i+1+(n - i))=[]:=List.drop_of_length_le (by simp only [List.length_append,htl,List.length_replicate,List.length_cons,List.length_nil];omega)
  have g2:((es.take i++[x])++List.replicate (n - i) z).take (i+1)=es.take i++[x]:=List.take_left' (by simp [htl])
  rw [show es.take i++x :: List.replicate (n - i) z=(es.take i++[x])++List.replicate (n - i) z by simp,g1,g2,List.take_of_length_le (Nat.le_of_eq hdl)]
  simp
 have hB1l:(es.take i++x :: List.replicate (n - i) z).length=n+1:=by simp [hnl];omega
 have hK:∃ K,partA J i (n+1 - i)=K∧K.take (n - i)=es.drop i∧(n+1≤c→K.length=n+1 - i):=by
  refine ⟨_,rfl,?_⟩
  simp only [ee]
  refine ⟨?_,fun hnc=>by simp;omega⟩
  rw [List.take_take,Nat.min_eq_left (by omega),← hJt,List.drop_take]
 obtain ⟨K,hK1,hK2,hK3⟩:=hK
 have f18:minN (n+1 - i) (n - i)=n - i:=by simp [ee];omega
 have hfK:wK 14 (K.take (n - i))=true:=by rw [hK2];exact hfd
 have hA3:∃ G,putA J (i+1) (n - i) K=G∧(n+1≤c→G.length=c∧(putA G i 1 [x]).take (n+1)=es.take i++x :: es.drop i):=by
  refine ⟨_,rfl,fun hnc=>?_⟩
  simp only [ee,putE]
  have h5:(J.take (i+1)).length=i+1:=by simp;omega
  have h6:(J.drop (i+1+(n - i))).length=c - (n+1):=by simp;omega
  rw [hK2]
  refine ⟨by simp only [List.length_append,h5,h6,hdl];omega,?_⟩
  have h8:(J.take (i+1)++es.drop i++J.drop (i+1+(n - i))).take i=es.take i:=by
   rw [List.append_assoc,List.take_append_of_le_length (by rw [h5];omega),List.take_take,Nat.min_eq_left (by omega),← hJt,List.take_take,Nat.min_eq_left (by omega)]
  have h9:(J.take (i+1)++es.drop i++J.drop (i+1+(n - i))).drop (i+1)=es.drop i++J.drop (i+1+(n - i)):=by
   rw [List.append_assoc,List.drop_left' h5]
  rw [h8,h9]
  rw [show es.take i++List.take 1 [x]++(es.drop i++J.drop (i+1+(n - i)))=(es.take i++x :: es.drop i)++J.drop (i+1+(n - i)) by simp]
  exact List.take_left' (by simp [hnl];omega)
 obtain ⟨G,hG,hG2⟩:=hA3
 have hB2l:(es.take i++x :: es.drop i).length=n+1:=by simp [hnl];omega
 generalize hB2:es.take i++x :: es.drop i=B2 at hA2 hG2 hB2l hcB ⊢
 have ge1:(es.drop i).take (n - i)=es.drop i:=List.take_of_length_le (Nat.le_of_eq hdl)
 generalize es.drop i=ed at *
 generalize es.take i=et at *
 generalize hm:n+1=m at f3 f5 f7 f9 f13 f5b f18 hK1 hK3 hB1l hB2l hG2 ⊢
 generalize hq:m - i=q at f5 f7 f5b f18 hK1 hK3
 generalize hq2:n - i=q2 at f9 f10 f11 f11b f12 hA1 hA2 hB1l hG hdl ge1 hK2 f18 hfK
 generalize hie:i+1=ie at f8 hA2 hG
 generalize hB1:et++x :: List.replicate q2 z=B1 at hA1 hA2 hB1l
 rw [hz] at hA1
 have fz:=hs1
 refine Cq ?_
 refine oC (fun h3=>?_) fun h3=>?_
 · simp [ee] at h3
   refine go rfl hX 0 (by conv=>lhs;cbv;simp only [hs1,hs2,f1,f2,f3,f4,f5,f6,f6b,f7,f15,hA1,hs1,hs2,f1,f2,f3,f4,f5,f6,f6b,f7,f15,hA1];cbv;simp only [hs1,hs2,f1,f2,f3,f4,f5,f6,f6b,f7,f15,hA1,hs1,hs2,f1,f2,f3,f4,f5,f6,f6b,f7,f15,hA1];cbv) ?_ ?_
   · simp only [Cd.ok,ee];(and_intros<;>first | omega | rfl | (simp only [List.drop_zero,ge1];assumption) | (simp only [List.drop_zero];assumption) | (simp only [List.length_append,List.length_replicate,htl];omega) | skip)
   refine zX rfl (by conv=>lhs;cbv) rfl ?_
   refine ru hX (by conv=>lhs;cbv;simp only [hs3,f8,f9,f10,f4,f11,f11b,f12,hA2,hs3,f8,f9,f10,f4,f11,f11b,f12,hA2];cbv;simp only [hs3,f8,f9,f10,f4,f11,f11b,f12,hA2,hs3,f8,f9,f10,f4,f11,f11b,f12,hA2];cbv) ?_ ?_
   · simp only [Cd.ok,ee];(and_intros<;>first | omega | rfl | (simp only [List.drop_zero,ge1];assumption) | (simp only [List.drop_zero];assumption) | (simp only [List.length_append,List.length_replicate,htl];omega) | skip)
   refine zK ⟨rfl,?_,?_⟩
   · simp [zJ]
   refine goA 0 ?_
   refine wo (F2:=[(6,.sl 2 14 0 m)]) (H2:=[.dead,.dead,.arr 14 B2]) (tQ [.gone,.gone,.to 2] [some 0,some 1,some 2] ⟨rfl,rfl,trivial⟩ (by simp) (by simp) ⟨trivial,trivial,⟨by simp,rfl⟩,trivial⟩ ⟨.dead,.dead,zR (b:=2) rfl rfl rfl rfl hcB,trivial⟩ ⟨.refl _,trivial⟩) rfl ⟨rfl,rfl⟩
 simp [ee] at h3
 refine go rfl hX 0 (by conv=>lhs;cbv;simp only [hs1,hs3,f1,f8,f9,f13,f14,hs1,hs3,f1,f8,f9,f13,f14];cbv;simp only [hs1,hs3,f1,f8,f9,f13,f14,hs1,hs3,f1,f8,f9,f13,f14];cbv) ?_ ?_
 · simp only [Cd.ok,ee];(and_intros<;>first | omega | rfl | (simp only [List.drop_zero,ge1];assumption) | (simp only [List.drop_zero];assumption) | (simp only [List.length_append,List.length_replicate,htl];omega) | skip)
 obtain ⟨hGl,hG2⟩:=hG2 (by omega)
 have hK3:=hK3 (by omega)
 have f17:lenN K=q:=by simp [ee];omega
 refine on_ext rfl rfl rfl (ovP (.sl _ _) (.slc _ _ _) rfl rfl) ?_
 have hbn:bNot false=true:=by simp [ee]
 have fz:=And.intro hbn hbn
 refine Cr ?_
 refine zX rfl (by conv=>lhs;cbv) rfl ?_
 refine ru hX (by conv=>lhs;cbv;simp only [f1,hs3,f8,f9,f4,f5,hK1,f17,f18,hG,f1,hs3,f8,f9,f4,f5,hK1,f17,f18,hG];cbv;simp only [f1,hs3,f8,f9,f4,f5,hK1,f17,f18,hG,f1,hs3,f8,f9,f4,f5,hK1,f17,f18,hG];cbv) ?_ ?_
 · simp only [Cd.ok,ee];(and_intros<;>first | omega | rfl | (simp only [List.drop_zero];assumption) | (simp only [List.drop_zero];assumption) | (simp only [List.length_append,List.length_replicate,htl];omega) | skip)
 refine zK ⟨rfl,?_,?_⟩
 · simp [zJ]
 refine go rfl hX 0 (by conv=>lhs;cbv;simp only [f1,hs3,f8,f9,f4,f5,hK1,f17,f18,hG,f6,f6b,f7,f1,hs3,f8,f9,f4,f5,hK1,f17,f18,hG,f6,f6b,f7];cbv;simp only [f1,hs3,f8,f9,f4,f5,hK1,f17,f18,hG,f6,f6b,f7,f1,hs3,f8,f9,f4,f5,hK1,f17,f18,hG,f6,f6b,f7];cbv) ?_ ?_
 · simp only [Cd.ok,ee];(and_intros<;>first | omega | rfl | (simp only [List.drop_zero,ge1];assumption) | (simp only [List.drop_zero];assumption) | (simp only [List.length_append,List.length_replicate,htl];omega) | skip)
 refine wo (F2:=[(6,.sl 2 14 0 m)]) (H2:=[.dead,.dead,.arr 14 B2]) (.trans (ent_unslc 6 rfl) (.trans (ent_trunc (b:=0) (m:=m) rfl (by simp)) (tQ [.to 2,.gone] [some 0,some 1,some 0] ⟨rfl,rfl,trivial⟩ (by simp) (by simp) ⟨⟨by simp,rfl⟩,trivial,trivial⟩ ⟨.dead,.dead,zR (b:=0) rfl rfl rfl hG2 hcB,trivial⟩ ⟨.refl _,trivial⟩))) rfl ⟨rfl,rfl⟩
theorem listP_one (op:Int) (q:Pat):xM op [q]=q:=rfl
theorem listP_more (op:Int) (l:List Pat) (h:l.length≠1):xM op l=.mk op l 0 0 0 0 Ex0:=by
 match l,h with
 | [],_=>rfl
 | [q],h=>exact absurd rfl h
 | a :: b :: r,_=>rfl
theorem listP_enc (op:Int) (l:List Pat) (h:l.length≠1):(xM op l).enc=.agg [int op,.isl 14 (zy Pat.enc l),int 0,int 0,int 0,int 0,int 0,.isl 8 [],int 0,int 0,int 0,int 0,int 0,str ⟨#[]⟩]:=by
 have h0:zy Ex.enc []=[]:=by rw [zu];rfl
 rw [listP_more op l h,Ex0,Pat.enc_mk,h0];rfl
theorem P_list (op:Int) (l:List Pat) (hl:l.length<1048577):PCall EE 210 [int op,.isl 14 (zy Pat.enc l)] (xM op l).enc:=by
 have kcl:=Pat.closedI l
 have hel:=zp Pat.enc l
 by_cases h1:l.length=1
 · obtain ⟨q,rfl⟩:=List.length_eq_one_iff.1 h1
   rw [listP_one]
   have kq:=Pat.closed q
   obtain ⟨qO,qA,qT,qV,qS,qN,qCo,qCa,qCv,qCf,qCk,qXk,qXn,qXt,hx⟩:=Pat.form q
   have he:zy Pat.enc [q]=[q.enc]:=by rw [zu];rfl
   rw [hx] at kq
   rw [he,hx] at kcl ⊢
   clear hel hx he
   generalize hv:AV.agg [int qO,.isl 14 qA,int qT,int qV,int qS,int qN,int qCo,.isl 8 qCa,int qCv,int qCf,int qCk,int qXk,int qXn,str qXt]=v at *
   generalize hes:[v]=es at *
   refine zo ?_;unhygienic intros
   have n1:iEq (lenA es) 1=true:=by simp only [ee];rw [← hes];rfl
   have hat:atA es 0=v:=by simp only [ee];rw [← hes];rfl
   have hl1:es.length=1:=by rw [← hes];rfl
   rw [← hv] at hat kq ⊢
   refine fB T210 [.cell 4 14 true] ?_
   have fz:=And.intro n1 hat
   refine Cq ?_
   refine Cr ?_
   exact fE [.gone]
 rw [listP_enc op l h1]
 refine zo ?_;unhygienic intros
 generalize zy Pat.enc l=es at *
 have n1:iEq (lenA es) 1=false:=by simp only [ee];simp;omega
 refine fB T210 [.cell 4 14 true] ?_
 have fz:=n1
 refine Cq ?_
 refine Aq ?_
 exact fE [.gone]
theorem Ed.base (p:Pat) {co ec cv cf ck xk xn xt} (h:p.cond.enc=.agg [int co,.isl 8 ec,int cv,int cf,int ck,int xk,int xn,str xt]) :
 (⟨0,0,p.var,p.ty,p.cond,[],[],[],[],[]⟩:Ed).enc=.agg [int 0,int 0,int p.var,int p.ty,int co,.isl 8 ec,int cv,int cf,int ck,int xk,int xn,str xt,.isl 1 [],.isl 1 [],.isl 8 [],.isl 2 [],.isl 1 []]:=by
 have h1:zy int []=[]:=by rw [zu];rfl
 have h2:zy Ex.enc []=[]:=by rw [zu];rfl
 have h3:zy wy []=[]:=by rw [zu];rfl
 rw [Ed.enc,h,h1,h2,h3];rfl
theorem uu : wR none=.agg [bool true,int 0,.isl 14 [],int 0,int 0,int 0,int 0,int 0,.isl 8 [],int 0,int 0,int 0,int 0,int 0,str ⟨#[]⟩]:=by
 rw [wR,Pat0.enc_eq];rfl
theorem enters_derivative_pairs_1 : xu EE.P 186:=enters_of rfl (by decide) T186.2
theorem X_event (p:Pat) (h0:p.op=0):XCall EE.P EE.G 186 [.iptr p.enc.cells] (p.outs.map wM):=by
 refine ⟨enters_derivative_pairs_1,fun X hS blk hy=>?_⟩
 have ho:p.outs=[(⟨0,0,p.var,p.ty,p.cond,[],[],[],[],[]⟩,none)]:=by rw [Pat.outs_eq,tD,if_pos h0]
 rw [ho] at hy ⊢
 have hcl:=Pat.closed p
 obtain ⟨pO,pA,pT,pV,pS,pN,pCo,pCa,pCv,pCf,pCk,pXk,pXn,pXt,hx,hxc,hpO,hpA,hpT,hpV,hpS,hpN⟩:=Pat.form2 p
 have hb:=Ed.base p hxc
 have hr:=uu
 simp only [List.map_cons,List.map_nil,wM] at hy
 rw [hb,hr,← hpV,← hpT] at hy
 rw [hx] at hcl ⊢
 clear hb hr hx hxc hpO hpA hpT hpV hpS hpN ho h0
 dsimp only [AV.cells]
 refine zo ?_;unhygienic intros
 refine rB T186 [] ?_
 refine Aq ?_
 refine w9 (j:=0) hy rfl rfl rfl rfl rfl ⟨.agg' ⟨.refl _,.refl _,.refl _,.refl _,.refl _,.refl _,.refl _,.refl _,.refl _,.refl _,.refl _,.refl _,.nilI _,.nilI _,.nilI _,.nilI _,.nilI _,trivial⟩,.agg' ⟨.refl _,.refl _,.nilI _,.refl _,.refl _,.refl _,.refl _,.refl _,.nilI _,.refl _,.refl _,.refl _,.refl _,.refl _,.refl _,trivial⟩,trivial⟩ rfl rfl ?_ ?_
 · refine Aq ?_
   exact t6 (Ent.refl _ _ _ _ _) rfl (.inl rfl)
 refine Aq ?_
 exact t6 (Ent.refl _ _ _ _ _) rfl (.inr ⟨_,rfl⟩)
theorem sV (l:List Pat):wK 14 (zy Pat.enc l)=true:=by
 rw [zu,wK,List.all_map,List.all_eq_true]
 intro x _
 obtain ⟨pO,pA,pT,pV,pS,pN,pCo,pCa,pCv,pCf,pCk,pXk,pXn,pXt,he⟩:=Pat.form x
 rw [Function.comp_apply,he];rfl
theorem Pat.closedL' (l:List Pat):AV.closedL (zy Pat.enc l)=true:=by
 have:=Pat.closedI l
 simpa only [AV.closed] using this
theorem O_CloneP (es:List AV) (n:Nat) (hn:n=es.length) (hl:es.length≤1048576) (kcL:AV.closedL es=true) (kft:wK 14 es=true):OCall EE 89 [.isl 14 es] (.sl 0 14 0 n) [.arr 14 es]:=by
 refine zo ?_;unhygienic intros
 refine oB T89 [.t 2] ?_
 have ke1:addN 0 (lenN es)=n:=by simp only [ee];omega
 have ke2:catA (dropA [] 0) es=es:=by simp only [ee];rfl
 refine Aq ?_
 refine on_eqnilI rfl rfl rfl rfl (fun t ht=>?_)
 cases t with
 | true =>
  have he:=ht rfl
  subst he
  have hn0:n=0:=hn
  subst hn0
  refine Aq ?_
  refine wo (F2:=[(2,.sl 0 14 0 0)]) (H2:=[.arr 14 []]) ?_ rfl ⟨rfl,rfl⟩
  exact (eS [] [none])
 | false =>
  refine Aq ?_
  (rw [ke1,ke2];exact wo (F2:=[(2,.sl 0 14 0 n)]) (H2:=[.arr 14 es]) (eS [.gone,.to 0] [some 1]) rfl ⟨rfl,rfl⟩)
theorem enters_slices_Insert___api_Pattern_api_Pattern_ : xu EE.P 209:=enters_of rfl (by decide) T209.2
theorem P_continued (r:Option Pat) (more:List Pat) (hm:more.length<900000):PCall EE 199 [wR r,.isl 14 (zy Pat.enc more)] (wR (uj r more)):=by
 have kmI:=Pat.closedI more
 have km:=Pat.closedL' more
 have hml:=zp Pat.enc more
 have oc:=O_CloneP (zy Pat.enc more) more.length (by rw [zp]) (by rw [zp];omega) km (sV more)
 cases r with
 | none =>
  have kz:=xi none
  have hz:wR none=_:=uu
  cases more with
  | nil =>
   have hr:uj none []=none:=rfl
   have h0:zy Pat.enc []=[]:=by rw [zu];rfl
   rw [hr,hz]
   rw [h0] at oc ⊢
   refine zo ?_;unhygienic intros
   have n1:iEq (iOf 0) 0=true:=by simp only [ee];rfl
   have n2:bNot true=false:=by simp only [ee];rfl
   refine fB T199 [.cell 4 15 true] ?_
   refine Aq ?_
   refine wH (args:=[.isl 14 []]) (v':=.sl 2 14 0 0) (H':=[.arr 14 []]) rfl rfl rfl oc rfl rfl rfl ?_
   have fz:=And.intro n1 n2
   refine goC 60 ?_
   exact fE [.gone,.gone,.gone]
  | cons q0 m =>
   have hr:uj none (q0 :: m)=some (xM 1 (q0 :: m)):=rfl
   rw [hr,hz]
   generalize hl:q0 :: m=l at *
   have hpos:0<l.length:=by rw [← hl];simp
   have pl:=P_list 1 l (by omega)
   obtain ⟨uO,uA,uT,uV,uS,uN,uCo,uCa,uCv,uCf,uCk,uXk,uXn,uXt,hu⟩:=Pat.form (xM 1 l)
   have ku:=Pat.closed (xM 1 l)
   have hzu:wR (some (xM 1 l))=.agg (bool false :: [int uO,.isl 14 uA,int uT,int uV,int uS,int uN,int uCo,.isl 8 uCa,int uCv,int uCf,int uCk,int uXk,int uXn,str uXt]):=by rw [wR,hu];rfl
   rw [hzu]
   rw [hu] at pl ku
   clear hu hzu hr
   generalize zy Pat.enc l=es at *
   generalize hn:l.length=n at *
   refine zo ?_;unhygienic intros
   have n1:iEq (iOf n) 0=false:=by simp only [ee];simp;omega
   have n2:bNot true=false:=by simp only [ee];rfl
   refine fB T199 [.cell 4 15 true] ?_
   refine Aq ?_
   refine wH (args:=[.isl 14 es]) (v':=.sl 2 14 0 n) (H':=[.arr 14 es]) rfl rfl rfl oc (zg kmI) rfl (uC km) ?_
   have fz:=And.intro n1 n2
   refine goC 60 ?_
   refine wW (wX (F':=[(20,.isl 14 es),(4,.ptr 1 0)]) 2 [.isl 14 es] rfl ⟨.cells (.cl (by rw [hz] at kz;exact kz)),.cells (.cl rfl),trivial⟩ ⟨⟨_,rfl,(zw _ km).symm⟩,trivial⟩ ⟨.of (xf rfl hml.symm),.refl _,trivial⟩ (by simp)) ?_
   refine oPA pl ?_
   refine Aq ?_
   refine zP rfl rfl ?_
   exact tu rfl (by simpa [AV.closed,AV.closedL] using ku)
 | some q =>
  have hr:uj (some q) more=some (xM 1 (q :: more)):=rfl
  rw [hr]
  have kq:=Pat.closed q
  obtain ⟨qO,qA,qT,qV,qS,qN,qCo,qCa,qCv,qCf,qCk,qXk,qXn,qXt,hq⟩:=Pat.form q
  have hz:wR (some q)=.agg (bool false :: [int qO,.isl 14 qA,int qT,int qV,int qS,int qN,int qCo,.isl 8 qCa,int qCv,int qCf,int qCk,int qXk,int qXn,str qXt]):=by rw [wR,hq];rfl
  have kz:=xi (some q)
  have ci:=C_InsertP (zy Pat.enc more) q.enc 0 (Nat.zero_le _) (by rw [hml];omega) km kq (sV more) (by have:=sV [q];rwa [zu] at this)
  have pl:=P_list 1 (q :: more) (by simp;omega)
  have kcm:=Pat.closedI (q :: more)
  have hcm:zy Pat.enc (q :: more)=q.enc :: zy Pat.enc more:=by rw [zu,zu,List.map_cons]
  obtain ⟨uO,uA,uT,uV,uS,uN,uCo,uCa,uCv,uCf,uCk,uXk,uXn,uXt,hu⟩:=Pat.form (xM 1 (q :: more))
  have ku:=Pat.closed (xM 1 (q :: more))
  have hzu:wR (some (xM 1 (q :: more)))=.agg (bool false :: [int uO,.isl 14 uA,int uT,int uV,int uS,int uN,int uCo,.isl 8 uCa,int uCv,int uCf,int uCk,int uXk,int uXn,str uXt]):=by rw [wR,hu];rfl
  rw [hzu,hz]
  rw [hz] at kz
  rw [hu] at pl ku
  rw [hcm,hq] at pl kcm
  rw [hq] at ci kq
  rw [hml,List.take_zero,List.drop_zero,List.nil_append] at ci
  clear hu hzu hr hz hcm hq
  have hci:((0:Nat):Int)=0:=rfl
  rw [hci] at ci
  clear hci
  generalize zy Pat.enc more=es at *
  generalize hn:more.length=n at *
  have kcl2:AV.closedL (AV.agg [int qO,.isl 14 qA,int qT,int qV,int qS,int qN,int qCo,.isl 8 qCa,int qCv,int qCf,int qCk,int qXk,int qXn,str qXt] :: es)=true:=by simpa only [AV.closed] using kcm
  refine zo ?_;unhygienic intros
  have n1:iEq (iOf (n+1)) 0=false:=by simp only [ee];simp;omega
  have n2:bNot false=true:=by simp only [ee];rfl
  refine fB T199 [.cell 4 15 true] ?_
  refine Aq ?_
  refine wH (args:=[.isl 14 es]) (v':=.sl 2 14 0 n) (H':=[.arr 14 es]) rfl rfl rfl oc (zg kmI) rfl (uC km) ?_
  have fz:=n2
  refine goC 60 ?_
  refine on_fcall [2,3] rfl rfl enters_slices_Insert___api_Pattern_api_Pattern_ ci (by decide) (by simp) ?_ rfl ?_
  · show _=[AObj.arr 14 (AV.subL _ es),AObj.arr 14 _]
    rw [zw _ km,zw _ (zg kq)]
  rintro v0 H1 ⟨rfl,rfl⟩ -
  have kzl:AV.closedL (bool false :: [int qO,.isl 14 qA,int qT,int qV,int qS,int qN,int qCo,.isl 8 qCa,int qCv,int qCf,int qCk,int qXk,int qXn,str qXt])=true:=by simpa only [AV.closed] using kz
  refine wW (wX (F':=[(15,.isl 14 (AV.agg [int qO,.isl 14 qA,int qT,int qV,int qS,int qN,int qCo,.isl 8 qCa,int qCv,int qCf,int qCk,int qXk,int qXn,str qXt] :: es)),(4,.ptr 1 0)]) 2 [.gone,.gone,.isl 14 (AV.agg [int qO,.isl 14 qA,int qT,int qV,int qS,int qN,int qCo,.isl 8 qCa,int qCv,int qCf,int qCk,int qXk,int qXn,str qXt] :: es)] rfl ⟨.cells (.cl kzl),.cells (.cl rfl),trivial⟩ ⟨trivial,trivial,⟨_,rfl,by rw [zw _ kcl2,zw _ kcl2]⟩,trivial⟩ ⟨.of (xf rfl (by simp [hml])),.refl _,trivial⟩ (by simp)) ?_
  have n3:iEq (lenA (AV.agg [int qO,.isl 14 qA,int qT,int qV,int qS,int qN,int qCo,.isl 8 qCa,int qCv,int qCf,int qCk,int qXk,int qXn,str qXt] :: es)) 0=false:=by simp only [ee];simp;omega
  generalize hE:AV.agg [int qO,.isl 14 qA,int qT,int qV,int qS,int qN,int qCo,.isl 8 qCa,int qCv,int qCf,int qCk,int qXk,int qXn,str qXt] :: es=E at *
  have fz:=And.intro n1 n3
  refine goC 60 ?_
  refine oPA pl ?_
  refine Aq ?_
  refine zP rfl rfl ?_
  exact tu rfl (by simpa [AV.closed,AV.closedL] using ku)
structure Lim where
 scope:Int
 span:Int
def Lim.enc (l:Lim):AV:=.agg [int l.scope,int l.span]
def yesE : Ex:=.mk 0 [] 0 0 0 ⟨1,1,⟨#[]⟩⟩
def eventP (k v:Int):Pat:=.mk 0 [] k v 0 0 yesE
theorem yesE.enc_eq : yesE.enc=.agg [int 0,.isl 8 [],int 0,int 0,int 0,int 1,int 1,str ⟨#[]⟩]:=by
 rw [yesE,Ex.enc_mk,zu];rfl
theorem eventP.enc_eq (k v:Int):(eventP k v).enc=.agg [int 0,.isl 14 [],int k,int v,int 0,int 0,int 0,.isl 8 [],int 0,int 0,int 0,int 1,int 1,str ⟨#[]⟩]:=by
 rw [eventP,yesE,Pat.enc_mk,zu,zu];rfl
theorem P_Flag (b:Bool):PCall EE 86 [bool b] (.agg [int 1,int (if b then 1 else 0),str ⟨#[]⟩]):=by
 refine zo ?_;unhygienic intros
 refine fB T86 [.cell 2 3 true] ?_
 cases b with
 | true =>
  refine Aq ?_
  exact fE [.gone]
 | false =>
  refine Aq ?_
  exact fE [.gone]
end Go.Am
end
