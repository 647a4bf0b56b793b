/- Contracts of the program's functions. -/
import Derived.Test.YtpfnahcfnclgdaaGreatDoorPCa
import Derived.Test.YtpfnahcfnclgdaaGreatDoorPCb
import Derived.Test.YtpfnahcfnclgdaaGreatDoorPCc
noncomputable section
set_option maxHeartbeats 16000000
set_option maxRecDepth 100000
namespace Go.Am
open Go.Proofs
abbrev int (n:Int):AV:=.val (.int .i64 n)
abbrev bool (b:Bool):AV:=.val (.bool b)
abbrev str (s:ByteArray):AV:=.val (.string s)
structure Vl where
 kind:Int
 num:Int
 text:ByteArray
inductive Ex where
 | mk (op:Int) (args:List Ex) (var fld kind:Int) (val:Vl)
inductive Pat where
 | mk (op:Int) (args:List Pat) (ty var scope span:Int) (cond:Ex)
def Ex.op : Ex→Int | .mk o _ _ _ _ _=>o
def Ex.args : Ex→List Ex | .mk _ a _ _ _ _=>a
def Ex.var : Ex→Int | .mk _ _ v _ _ _=>v
def Ex.fld : Ex→Int | .mk _ _ _ f _ _=>f
def Ex.kind : Ex→Int | .mk _ _ _ _ k _=>k
def Ex.val : Ex→Vl | .mk _ _ _ _ _ v=>v
def Pat.op : Pat→Int | .mk o _ _ _ _ _ _=>o
def Pat.args : Pat→List Pat | .mk _ a _ _ _ _ _=>a
def Pat.ty : Pat→Int | .mk _ _ t _ _ _ _=>t
def Pat.var : Pat→Int | .mk _ _ _ v _ _ _=>v
def Pat.scope : Pat→Int | .mk _ _ _ _ s _ _=>s
def Pat.span : Pat→Int | .mk _ _ _ _ _ s _=>s
def Pat.cond : Pat→Ex | .mk _ _ _ _ _ _ c=>c
theorem Ex.ind {p:Ex→Prop} (h:∀ o a v f k x,(∀ e∈a,p e)→p (.mk o a v f k x)):∀ e,p e
 | .mk o a v f k x=>h o a v f k x fun e _he=>Ex.ind h e
termination_by e=>SizeOf.sizeOf e
decreasing_by simp;have:=List.sizeOf_lt_of_mem _he;omega
theorem Pat.ind {p:Pat→Prop} (h:∀ o a t v s n c,(∀ q∈a,p q)→p (.mk o a t v s n c)):∀ q,p q
 | .mk o a t v s n c=>h o a t v s n c fun q _hq=>Pat.ind h q
termination_by q=>SizeOf.sizeOf q
decreasing_by simp;have:=List.sizeOf_lt_of_mem _hq;omega
def Vl.cs (v:Vl):List AV:=[int v.kind,int v.num,str v.text]
def Vl.enc (v:Vl):AV:=.agg v.cs
mutual
def Ex.cs0 : Ex→List AV
 | .mk o a v f k x=>[int o,.isl 8 (Ex.csL a),int v,int f,int k,int x.kind,int x.num,str x.text]
def Ex.csL : List Ex→List AV
 | []=>[]
 | e :: r=>.agg (Ex.cs0 e) :: Ex.csL r
end
mutual
def Pat.cs0 : Pat→List AV
 | .mk o a t v s n c=>[int o,.isl 14 (Pat.csL a),int t,int v,int s,int n]++Ex.cs0 c
def Pat.csL : List Pat→List AV
 | []=>[]
 | e :: r=>.agg (Pat.cs0 e) :: Pat.csL r
end
structure EncBox where
 ex:Ex→AV
 pat:Pat→AV
 hex:∀ e,ex e=.agg (Ex.cs0 e)
 hpat:∀ e,pat e=.agg (Pat.cs0 e)
theorem encBox_ne : Nonempty EncBox:=⟨⟨fun e=>.agg (Ex.cs0 e),fun e=>.agg (Pat.cs0 e),fun _=>rfl,fun _=>rfl⟩⟩
def Ex.enc (e:Ex):AV:=(Classical.choice encBox_ne).ex e
def Pat.enc (e:Pat):AV:=(Classical.choice encBox_ne).pat e
theorem Ex.enc_def (e:Ex):e.enc=.agg (Ex.cs0 e):=(Classical.choice encBox_ne).hex e
theorem Pat.enc_def (e:Pat):e.enc=.agg (Pat.cs0 e):=(Classical.choice encBox_ne).hpat e
theorem Ex.csL_eq : ∀ l:List Ex,Ex.csL l=zy Ex.enc l
 | []=>by rw [Ex.csL,zu];rfl
 | e :: r=>by rw [Ex.csL,Ex.csL_eq r,zu,zu,List.map_cons,Ex.enc_def]
theorem Pat.csL_eq : ∀ l:List Pat,Pat.csL l=zy Pat.enc l
 | []=>by rw [Pat.csL,zu];rfl
 | e :: r=>by rw [Pat.csL,Pat.csL_eq r,zu,zu,List.map_cons,Pat.enc_def]
theorem Ex.enc_mk (o a v f k x):(Ex.mk o a v f k x).enc=.agg [int o,.isl 8 (zy Ex.enc a),int v,int f,int k,int x.kind,int x.num,str x.text]:=by rw [Ex.enc_def,Ex.cs0,Ex.csL_eq]
theorem Pat.enc_mk (o a t v s n) (co ca cv cf ck cx):(Pat.mk o a t v s n (.mk co ca cv cf ck cx)).enc=.agg [int o,.isl 14 (zy Pat.enc a),int t,int v,int s,int n,int co,.isl 8 (zy Ex.enc ca),int cv,int cf,int ck,int cx.kind,int cx.num,str cx.text]:=by
 rw [Pat.enc_def,Pat.cs0,Pat.csL_eq,Ex.cs0,Ex.csL_eq];rfl
theorem Ex.form (e:Ex):∃ o es v f k xk xn xt,e.enc=.agg [int o,.isl 8 es,int v,int f,int k,int xk,int xn,str xt]:=by
 obtain ⟨o,a,v,f,k,x⟩:=e
 exact ⟨_,_,_,_,_,_,_,_,Ex.enc_mk ..⟩
theorem Pat.form (p:Pat):∃ o es t v s n co ec cv cf ck xk xn xt,p.enc=.agg [int o,.isl 14 es,int t,int v,int s,int n,int co,.isl 8 ec,int cv,int cf,int ck,int xk,int xn,str xt]:=by
 obtain ⟨o,a,t,v,s,n,⟨co,ca,cv,cf,ck,cx⟩⟩:=p
 exact ⟨_,_,_,_,_,_,_,_,_,_,_,_,_,_,Pat.enc_mk ..⟩
theorem Pat.form2 (p:Pat):∃ o es t v s n co ec cv cf ck xk xn xt,p.enc=.agg [int o,.isl 14 es,int t,int v,int s,int n,int co,.isl 8 ec,int cv,int cf,int ck,int xk,int xn,str xt] ∧
 p.cond.enc=.agg [int co,.isl 8 ec,int cv,int cf,int ck,int xk,int xn,str xt]∧o=p.op∧es=zy Pat.enc p.args∧t=p.ty∧v=p.var∧s=p.scope∧n=p.span:=by
 obtain ⟨o,a,t,v,s,n,⟨co,ca,cv,cf,ck,cx⟩⟩:=p
 exact ⟨_,_,_,_,_,_,_,_,_,_,_,_,_,_,Pat.enc_mk ..,Ex.enc_mk ..,rfl,rfl,rfl,rfl,rfl,rfl⟩
theorem Ex.closed : ∀ e:Ex,e.enc.closed=true:=Ex.ind fun o a v f k x h=>by
 rw [Ex.enc_mk]
 simp only [AV.closed,AV.closedL,Bool.and_true,Bool.true_and]
 rw [zu]
 exact AV.closedL_of fun c hc=>by obtain ⟨e,he,rfl⟩:=List.mem_map.1 hc;exact h e he
theorem Ex.closedL (l:List Ex):AV.closedL (zy Ex.enc l)=true:=yU Ex.closed l
theorem Pat.closed : ∀ e:Pat,e.enc.closed=true:=Pat.ind fun o a t v s n c h=>by
 obtain ⟨co,ca,cv,cf,ck,cx⟩:=c
 rw [Pat.enc_mk]
 simp only [AV.closed,AV.closedL,Bool.and_true,Bool.true_and,Ex.closedL]
 rw [zu]
 exact AV.closedL_of fun c hc=>by obtain ⟨e,he,rfl⟩:=List.mem_map.1 hc;exact h e he
theorem Pat.closedL (l:List Pat):AV.closedL (zy Pat.enc l)=true:=yU Pat.closed l
theorem Ex.closedI (l:List Ex):(AV.isl 8 (zy Ex.enc l)).closed=true:=by simp [AV.closed,Ex.closedL]
theorem Pat.closedI (l:List Pat):(AV.isl 14 (zy Pat.enc l)).closed=true:=by simp [AV.closed,Pat.closedL]
mutual
def Ex.cnt : Ex→Nat
 | .mk _ a _ _ _ _=>1+Ex.cntL a
def Ex.cntL : List Ex→Nat
 | []=>0
 | e :: r=>e.cnt+Ex.cntL r
end
mutual
def Pat.cnt : Pat→Nat
 | .mk _ a _ _ _ _ _=>1+Pat.cntL a
def Pat.cntL : List Pat→Nat
 | []=>0
 | e :: r=>e.cnt+Pat.cntL r
end
mutual
def Pat.exs : Pat→List Ex
 | .mk _ a _ _ _ _ c=>c :: Pat.exsL a
def Pat.exsL : List Pat→List Ex
 | []=>[]
 | e :: r=>e.exs++Pat.exsL r
end
theorem Ex.cnt_mem {e:Ex}:∀ {l:List Ex},e∈l→e.cnt≤Ex.cntL l
 | x :: r,h=>by
  rcases List.mem_cons.1 h with rfl | h
  · simp [Ex.cntL]
  have:=Ex.cnt_mem h;simp [Ex.cntL];omega
theorem Pat.cnt_mem {e:Pat}:∀ {l:List Pat},e∈l→e.cnt≤Pat.cntL l
 | x :: r,h=>by
  rcases List.mem_cons.1 h with rfl | h
  · simp [Pat.cntL]
  have:=Pat.cnt_mem h;simp [Pat.cntL];omega
theorem Ex.cnt_pos (e:Ex):1≤e.cnt:=by cases e;simp [Ex.cnt]
theorem Pat.cnt_pos (e:Pat):1≤e.cnt:=by cases e;simp [Pat.cnt]
theorem Ex.cntL_len : ∀ l:List Ex,l.length≤Ex.cntL l
 | []=>by simp [Ex.cntL]
 | x :: r=>by have:=Ex.cntL_len r;have:=Ex.cnt_pos x;simp [Ex.cntL];omega
theorem Pat.cntL_len : ∀ l:List Pat,l.length≤Pat.cntL l
 | []=>by simp [Pat.cntL]
 | x :: r=>by have:=Pat.cntL_len r;have:=Pat.cnt_pos x;simp [Pat.cntL];omega
theorem Ex.cntL_append (a b:List Ex):Ex.cntL (a++b)=Ex.cntL a+Ex.cntL b:=by
 induction a with
 | nil=>simp [Ex.cntL]
 | cons x r ih=>simp [Ex.cntL,ih];omega
theorem Pat.cntL_append (a b:List Pat):Pat.cntL (a++b)=Pat.cntL a+Pat.cntL b:=by
 induction a with
 | nil=>simp [Pat.cntL]
 | cons x r ih=>simp [Pat.cntL,ih];omega
theorem Pat.exs_mem {q:Pat} {c:Ex} (hc:c∈q.exs):∀ {l:List Pat},q∈l→c∈Pat.exsL l
 | x :: r,h=>by
  rcases List.mem_cons.1 h with rfl | h
  · simp [Pat.exsL,hc]
  simp [Pat.exsL,Pat.exs_mem hc h]
def Ex.Sm (e:Ex):Prop:=e.cnt≤1048576
def Pat.Sm (p:Pat):Prop:=p.cnt≤1048576∧∀ c∈p.exs,c.Sm
theorem Ex.Sm.arg {o a v f k x} (h:(Ex.mk o a v f k x).Sm) {e:Ex} (he:e∈a):e.Sm:=by
 unfold Ex.Sm at h ⊢;have:=Ex.cnt_mem he;simp [Ex.cnt] at h;omega
theorem Ex.Sm.len {o a v f k x} (h:(Ex.mk o a v f k x).Sm):a.length<1048576:=by
 unfold Ex.Sm at h;have:=Ex.cntL_len a;simp [Ex.cnt] at h;omega
theorem Pat.Sm.arg {o a t v s n c} (h:(Pat.mk o a t v s n c).Sm) {e:Pat} (he:e∈a):e.Sm:=by
 obtain ⟨h1,h2⟩:=h
 refine ⟨?_,fun c hc=>h2 c ?_⟩
 · have:=Pat.cnt_mem he;simp [Pat.cnt] at h1;omega
 simp [Pat.exs,Pat.exs_mem hc he]
theorem Pat.Sm.len {o a t v s n c} (h:(Pat.mk o a t v s n c).Sm):a.length<1048576:=by
 have h:=h.1;have:=Pat.cntL_len a;simp [Pat.cnt] at h;omega
theorem Pat.Sm.cond {o a t v s n c} (h:(Pat.mk o a t v s n c).Sm):c.Sm:=h.2 c (by simp [Pat.exs])
mutual
def Ex.dep : Ex→Nat
 | .mk _ a _ _ _ _=>Ex.depL 0 a+1
def Ex.depL : Nat→List Ex→Nat
 | d,[]=>d
 | d,e :: r=>Ex.depL (max d e.dep) r
end
mutual
def Pat.dep : Pat→Nat
 | .mk _ a _ _ _ _ _=>Pat.depL 0 a+1
def Pat.depL : Nat→List Pat→Nat
 | d,[]=>d
 | d,e :: r=>Pat.depL (max d e.dep) r
end
theorem Ex.depL_le {l:List Ex} (h:∀ e∈l,Ex.dep e≤e.cnt):∀ d,Ex.depL d l≤max d (Ex.cntL l):=by
 induction l with
 | nil=>intro d;simp [Ex.depL];omega
 | cons e r ih =>
  intro d
  have h1:=h e (by simp)
  have h2:=ih (fun e he=>h e (by simp [he])) (max d e.dep)
  simp only [Ex.depL,Ex.cntL];omega
theorem Ex.dep_le : ∀ e:Ex,e.dep≤e.cnt:=Ex.ind fun o a v f k x h=>by
 have:=Ex.depL_le h 0
 simp only [Ex.dep,Ex.cnt];omega
theorem Pat.depL_le {l:List Pat} (h:∀ e∈l,Pat.dep e≤e.cnt):∀ d,Pat.depL d l≤max d (Pat.cntL l):=by
 induction l with
 | nil=>intro d;simp [Pat.depL];omega
 | cons e r ih =>
  intro d
  have h1:=h e (by simp)
  have h2:=ih (fun e he=>h e (by simp [he])) (max d e.dep)
  simp only [Pat.depL,Pat.cntL];omega
theorem Pat.dep_le : ∀ e:Pat,e.dep≤e.cnt:=Pat.ind fun o a t v s n c h=>by
 have:=Pat.depL_le h 0
 simp only [Pat.dep,Pat.cnt];omega
mutual
def Pat.nodes : Pat→List Pat
 | .mk o a t v s n c=>.mk o a t v s n c :: Pat.nodesL a
def Pat.nodesL : List Pat→List Pat
 | []=>[]
 | e :: r=>e.nodes++Pat.nodesL r
end
mutual
def Ex.nodes : Ex→List Ex
 | .mk o a v f k x=>.mk o a v f k x :: Ex.nodesL a
def Ex.nodesL : List Ex→List Ex
 | []=>[]
 | e :: r=>e.nodes++Ex.nodesL r
end
theorem Pat.nodesL_append (a b:List Pat):Pat.nodesL (a++b)=Pat.nodesL a++Pat.nodesL b:=by
 induction a with
 | nil=>simp [Pat.nodesL]
 | cons x r ih=>simp [Pat.nodesL,ih]
theorem Ex.nodesL_append (a b:List Ex):Ex.nodesL (a++b)=Ex.nodesL a++Ex.nodesL b:=by
 induction a with
 | nil=>simp [Ex.nodesL]
 | cons x r ih=>simp [Ex.nodesL,ih]
theorem Pat.nodesL_len {l:List Pat} (h:∀ e∈l,e.nodes.length=e.cnt):(Pat.nodesL l).length=Pat.cntL l:=by
 induction l with
 | nil=>simp [Pat.nodesL,Pat.cntL]
 | cons x r ih=>simp [Pat.nodesL,Pat.cntL,h x (by simp),ih fun e he=>h e (by simp [he])]
theorem Pat.nodes_len : ∀ p:Pat,p.nodes.length=p.cnt:=Pat.ind fun o a t v s n c h=>by
 simp [Pat.nodes,Pat.cnt,Pat.nodesL_len h];omega
theorem Pat.nodesL_len' (l:List Pat):(Pat.nodesL l).length=Pat.cntL l:=Pat.nodesL_len fun e _=>e.nodes_len
theorem Ex.nodesL_len {l:List Ex} (h:∀ e∈l,e.nodes.length=e.cnt):(Ex.nodesL l).length=Ex.cntL l:=by
 induction l with
 | nil=>simp [Ex.nodesL,Ex.cntL]
 | cons x r ih=>simp [Ex.nodesL,Ex.cntL,h x (by simp),ih fun e he=>h e (by simp [he])]
theorem Ex.nodes_len : ∀ p:Ex,p.nodes.length=p.cnt:=Ex.ind fun o a v f k x h=>by
 simp [Ex.nodes,Ex.cnt,Ex.nodesL_len h];omega
theorem Pat.nodes_eq (p:Pat):p.nodes=p :: Pat.nodesL p.args:=by obtain ⟨o,a,t,v,s,n,c⟩:=p;simp [Pat.nodes,Pat.args]
theorem Ex.nodes_eq (p:Ex):p.nodes=p :: Ex.nodesL p.args:=by obtain ⟨o,a,v,f,k,x⟩:=p;simp [Ex.nodes,Ex.args]
theorem Pat.mem_nodesL {q:Pat}:∀ {l:List Pat},q∈Pat.nodesL l→∃ e∈l,q∈e.nodes
 | [],h=>by simp [Pat.nodesL] at h
 | x :: r,h=>by
  simp only [Pat.nodesL,List.mem_append] at h
  rcases h with h | h
  · exact ⟨x,by simp,h⟩
  obtain ⟨e,he,hq⟩:=Pat.mem_nodesL h;exact ⟨e,by simp [he],hq⟩
theorem Ex.mem_nodesL {q:Ex}:∀ {l:List Ex},q∈Ex.nodesL l→∃ e∈l,q∈e.nodes
 | [],h=>by simp [Ex.nodesL] at h
 | x :: r,h=>by
  simp only [Ex.nodesL,List.mem_append] at h
  rcases h with h | h
  · exact ⟨x,by simp,h⟩
  obtain ⟨e,he,hq⟩:=Ex.mem_nodesL h;exact ⟨e,by simp [he],hq⟩
theorem Pat.Sm.node : ∀ {p:Pat},p.Sm→∀ q∈p.nodes,q.Sm:=fun {p}=>Pat.ind (p:=fun p=>p.Sm→∀ q∈p.nodes,q.Sm) (fun o a t v s n c ih hs q hq=>by
 simp only [Pat.nodes,List.mem_cons] at hq
 rcases hq with rfl | hq
 · exact hs
 obtain ⟨e,he,hq⟩:=Pat.mem_nodesL hq
 exact ih e he (hs.arg he) q hq) p
theorem Ex.Sm.node : ∀ {p:Ex},p.Sm→∀ q∈p.nodes,q.Sm:=fun {p}=>Ex.ind (p:=fun p=>p.Sm→∀ q∈p.nodes,q.Sm) (fun o a v f k x ih hs q hq=>by
 simp only [Ex.nodes,List.mem_cons] at hq
 rcases hq with rfl | hq
 · exact hs
 obtain ⟨e,he,hq⟩:=Ex.mem_nodesL hq
 exact ih e he (hs.arg he) q hq) p
theorem Pat.Sm.cond' {p:Pat} (h:p.Sm):p.cond.Sm:=by obtain ⟨o,a,t,v,s,n,c⟩:=p;exact h.cond
theorem fitL {α:Type} {k:Nat} {enc:α→AV} (h:∀ x,wK k [enc x]=true) (l:List α):wK k (zy enc l)=true:=by
 rw [zu,wK,List.all_map,List.all_eq_true]
 intro x _
 have:=h x
 simpa [wK] using this
theorem fitPat (l:List Pat):wK 14 (zy Pat.enc l)=true:=fitL (fun p=>by obtain ⟨o,es,t,v,s,n,co,ec,cv,cf,ck,xk,xn,xt,h⟩:=Pat.form p;rw [h];rfl) l
theorem vO (l:List Int):AV.closedL (zy int l)=true:=yU (fun _=>rfl) l
theorem zQ (l:List Int):(AV.isl 1 (zy int l)).closed=true:=by simp [AV.closed,vO]
theorem sN {a b:ByteArray} (h:a.toList=b.toList):a=b:=by
 rw [ByteArray.toList_eq,ByteArray.toList_eq] at h
 exact ByteArray.ext (Array.toList_inj.1 h)
def eqB {α:Type} (a b:α):Bool:=@decide (a=b) (Classical.propDecidable _)
theorem xF {α:Type} {a b:α} (h:a=b):eqB a b=true:=by unfold eqB;exact @decide_eq_true _ (Classical.propDecidable _) h
theorem xl {α:Type} {a b:α} (h:a≠b):eqB a b=false:=by unfold eqB;exact @decide_eq_false _ (Classical.propDecidable _) h
theorem eqB_iff {α:Type} {a b:α}:eqB a b=true↔a=b:=by
 refine ⟨fun h=>Classical.byContradiction fun hn=>?_,xF⟩
 rw [xl hn] at h
 exact Bool.noConfusion h
def shapesL : List Value:=[
 .int .i64 0,.int .i64 0,.bool true,.bool true,.bool false,.bool false,
 .int .i64 2,.int .i64 64,.bool false,.bool false,.bool false,.bool false,
 .int .i64 2,.int .i64 64,.bool false,.bool false,.bool false,.bool false,
 .int .i64 2,.int .i64 64,.bool false,.bool false,.bool false,.bool false,
 .int .i64 1,.int .i64 1,.bool false,.bool false,.bool false,.bool false,
 .int .i64 1,.int .i64 1,.bool true,.bool true,.bool true,.bool false,
 .int .i64 1,.int .i64 1,.bool false,.bool false,.bool true,.bool true,
 .int .i64 1,.int .i64 1,.bool false,.bool true,.bool false,.bool false,
 .int .i64 2,.int .i64 2,.bool false,.bool false,.bool false,.bool false,
 .int .i64 1,.int .i64 1,.bool true,.bool true,.bool true,.bool false,
 .int .i64 1,.int .i64 1,.bool false,.bool false,.bool true,.bool true]
structure TabBox where
 g:List AV
 h:g=shapesL.map .val
theorem vY : Nonempty TabBox:=⟨⟨_,rfl⟩⟩
def EE : Env:=.of Tryz.prog (fun n=>cond (Nat.beq n 0) (.iptr (Classical.choice vY).g) .undef)
def Vl.sizeE (v:Vl):Int:=if v.kind=0∧(v.num < -1099511627776∨1099511627776<v.num) then 2 else if v.kind=1∧v.num≠0∧v.num≠1 then 2 else if 64<(v.text.size:Int) then 13 else 0
def Vl.chk (v:Vl):Int:=if v.kind=0∨v.kind=1 then (if v.text≠⟨#[]⟩ then 3 else v.sizeE) else if v.kind=2 then (if v.num≠0 then 3 else v.sizeE) else 1
def tc (k:Int) (v:Vl):Bool:=decide (v.kind=0∨k=4∨k=5)
theorem bs_nil {a:ByteArray}:a.toList=(ByteArray.mk #[]).toList↔a=⟨#[]⟩:=⟨fun h=>sN h,fun h=>by rw [h]⟩
theorem P_value_size (v:Vl):PCall EE 197 [v.enc] (int v.sizeE):=by
 obtain ⟨k,n,t⟩:=v
 unfold Vl.enc Vl.cs
 dsimp only
 obtain ⟨R,hR⟩:∃ R,R=Vl.sizeE ⟨k,n,t⟩:=⟨_,rfl⟩
 rw [← hR]
 unfold Vl.sizeE at hR
 dsimp only at hR
 refine zo ?_;unhygienic intros
 refine fB T197 [.t 2] ?_
 refine goA 0 ?_
 refine nsB hX (by conv=>lhs;cbv) ?_
 refine goA 0 ?_
 refine oC (fun c1=>?_) fun c1=>?_
 ·
  simp [ee] at c1
  refine Aq ?_
  exact fI (h:=by rw [hR];(repeat' split)<;>first | rfl | (exfalso;omega))
 simp [ee] at c1
 refine goA 0 ?_
 refine oC (fun c2=>?_) fun c2=>?_
 ·
  simp [ee] at c2
  refine Aq ?_
  exact fI (h:=by rw [hR];(repeat' split)<;>first | rfl | (exfalso;omega))
 simp [ee] at c2
 refine goA 0 ?_
 refine oC (fun c3=>?_) fun c3=>?_
 ·
  simp [ee] at c3
  refine Aq ?_
  exact fI (h:=by rw [hR];(repeat' split)<;>first | rfl | (exfalso;omega))
 simp [ee] at c3
 refine Aq ?_
 exact fI (h:=by rw [hR];(repeat' split)<;>first | rfl | (exfalso;omega))
theorem P_value_Check (v:Vl):PCall EE 180 [v.enc] (int v.chk):=by
 have hs:=P_value_size v
 obtain ⟨k,n,t⟩:=v
 unfold Vl.enc Vl.cs at *
 dsimp only at *
 obtain ⟨R,hR⟩:∃ R,R=Vl.chk ⟨k,n,t⟩:=⟨_,rfl⟩
 rw [← hR]
 unfold Vl.chk at hR
 generalize Vl.sizeE ⟨k,n,t⟩=sz at *
 dsimp only at hR
 refine zo ?_;unhygienic intros
 refine fB T180 [.t 2] ?_
 by_cases ht:t=⟨#[]⟩
 · have hw:sNe t ⟨#[]⟩=false:=by simp only [ee];rw [ht];simp
   have ht2:¬ (t≠⟨#[]⟩):=fun h=>h ht
   simp only [ht2,if_false] at hR
   have fz:=hw
   refine Cq ?_
   refine oC (fun c1=>?_) fun c1=>?_
   ·
    simp [ee] at c1
    refine Cq ?_
    refine oC (fun c2=>?_) fun c2=>?_
    ·
     simp [ee] at c2
     refine Cq ?_
     refine Aq ?_
     refine oPA hs ?_
     refine Aq ?_
     exact fI (h:=by rw [hR];(repeat' split)<;>first | rfl | (exfalso;omega))
    simp [ee] at c2
    refine Cq ?_
    refine oC (fun c3=>?_) fun c3=>?_
    ·
     simp [ee] at c3
     refine Cq ?_
     refine oC (fun c4=>?_) fun c4=>?_
     ·
      simp [ee] at c4
      refine Aq ?_
      exact fI (h:=by rw [hR];(repeat' split)<;>first | rfl | (exfalso;omega))
     simp [ee] at c4
     refine Aq ?_
     refine oPA hs ?_
     refine Aq ?_
     exact fI (h:=by rw [hR];(repeat' split)<;>first | rfl | (exfalso;omega))
    simp [ee] at c3
    refine Aq ?_
    exact fI (h:=by rw [hR];(repeat' split)<;>first | rfl | (exfalso;omega))
   simp [ee] at c1
   refine Cq ?_
   refine oC (fun c5=>?_) fun c5=>?_
   ·
    simp [ee] at c5
    refine Cq ?_
    refine Aq ?_
    refine oPA hs ?_
    refine Aq ?_
    exact fI (h:=by rw [hR];(repeat' split)<;>first | rfl | (exfalso;omega))
   simp [ee] at c5
   refine Cq ?_
   refine oC (fun c6=>?_) fun c6=>?_
   ·
    simp [ee] at c6
    refine Cq ?_
    refine oC (fun c7=>?_) fun c7=>?_
    ·
     simp [ee] at c7
     refine Aq ?_
     exact fI (h:=by rw [hR];(repeat' split)<;>first | rfl | (exfalso;omega))
    simp [ee] at c7
    refine Aq ?_
    refine oPA hs ?_
    refine Aq ?_
    exact fI (h:=by rw [hR];(repeat' split)<;>first | rfl | (exfalso;omega))
   simp [ee] at c6
   refine Aq ?_
   exact fI (h:=by rw [hR];(repeat' split)<;>first | rfl | (exfalso;omega))
 have hw:sNe t ⟨#[]⟩=true:=by simp only [ee];simpa using fun h=>ht (sN h)
 have ht2:t≠⟨#[]⟩:=ht
 simp only [ne_eq,ht,not_false_eq_true,if_true] at hR
 have fz:=hw
 refine Cq ?_
 refine oC (fun c1=>?_) fun c1=>?_
 ·
  simp [ee] at c1
  refine Cq ?_
  refine oC (fun c2=>?_) fun c2=>?_
  ·
   simp [ee] at c2
   refine Cq ?_
   refine Aq ?_
   exact fI (h:=by rw [hR];(repeat' split)<;>first | rfl | (exfalso;omega))
  simp [ee] at c2
  refine Cq ?_
  refine oC (fun c3=>?_) fun c3=>?_
  ·
   simp [ee] at c3
   refine Cq ?_
   refine oC (fun c4=>?_) fun c4=>?_
   ·
    simp [ee] at c4
    refine Aq ?_
    exact fI (h:=by rw [hR];(repeat' split)<;>first | rfl | (exfalso;omega))
   simp [ee] at c4
   refine Aq ?_
   refine oPA hs ?_
   refine Aq ?_
   exact fI (h:=by rw [hR];(repeat' split)<;>first | rfl | (exfalso;omega))
  simp [ee] at c3
  refine Aq ?_
  exact fI (h:=by rw [hR];(repeat' split)<;>first | rfl | (exfalso;omega))
 simp [ee] at c1
 refine Cq ?_
 refine oC (fun c5=>?_) fun c5=>?_
 ·
  simp [ee] at c5
  refine Cq ?_
  refine Aq ?_
  exact fI (h:=by rw [hR];(repeat' split)<;>first | rfl | (exfalso;omega))
 simp [ee] at c5
 refine Cq ?_
 refine oC (fun c6=>?_) fun c6=>?_
 ·
  simp [ee] at c6
  refine Cq ?_
  refine oC (fun c7=>?_) fun c7=>?_
  ·
   simp [ee] at c7
   refine Aq ?_
   exact fI (h:=by rw [hR];(repeat' split)<;>first | rfl | (exfalso;omega))
  simp [ee] at c7
  refine Aq ?_
  refine oPA hs ?_
  refine Aq ?_
  exact fI (h:=by rw [hR];(repeat' split)<;>first | rfl | (exfalso;omega))
 simp [ee] at c6
 refine Aq ?_
 exact fI (h:=by rw [hR];(repeat' split)<;>first | rfl | (exfalso;omega))
theorem P_expr_suits (k:Int) (v:Vl):PCall EE 181 [int k,v.enc] (bool (tc k v)):=by
 obtain ⟨vk,n,t⟩:=v
 unfold Vl.enc Vl.cs
 dsimp only
 obtain ⟨R,hR⟩:∃ R,R=tc k ⟨vk,n,t⟩:=⟨_,rfl⟩
 rw [← hR]
 unfold tc at hR
 dsimp only at hR
 refine zo ?_;unhygienic intros
 refine fB T181 [.t 4] ?_
 refine Aq ?_
 exact fBo (h:=by rw [hR,Bool.eq_iff_iff];simp [ee,or_assoc])
def tX (o:Int):Bool:=decide (o=1∨o=4∨o=2∨o=3)
def tW (o:Int):Bool:=decide (o=1∨o=4)
def tz (o:Int):Int:=if o<0∨12<o then 0 else if o<5 then 0 else if o=12 then 1 else 2
def uD (o:Int):Bool:=decide (0≤o∧o≤12)
theorem P_expr_uses (o:Int):PCall EE 167 [int o] (.tup [bool (tX o),bool (tW o)]):=by
 obtain ⟨R,hR⟩:∃ R,R=tX o:=⟨_,rfl⟩
 obtain ⟨R2,hR2⟩:∃ R,R=tW o:=⟨_,rfl⟩
 rw [← hR,← hR2]
 unfold tX at hR
 unfold tW at hR2
 refine zo ?_;unhygienic intros
 refine fB T167 [.t 2,.t 3] ?_
 refine goA 0 ?_
 refine oC (fun c1=>?_) fun c1=>?_
 ·
  simp [ee] at c1
  refine goA 0 ?_
  refine oC (fun c2=>?_) fun c2=>?_
  ·
   simp [ee] at c2
   refine Aq ?_
   refine zP rfl rfl ?_
   exact Fz.none (.tup' ⟨.of (congrArg bool (by rw [hR];symm;first | exact decide_eq_true (by omega) | exact decide_eq_false (by omega))),.of (congrArg bool (by rw [hR2];symm;first | exact decide_eq_true (by omega) | exact decide_eq_false (by omega))),trivial⟩)
  simp [ee] at c2
  refine goA 0 ?_
  refine oC (fun c3=>?_) fun c3=>?_
  ·
   simp [ee] at c3
   refine goA 0 ?_
   refine oC (fun c4=>?_) fun c4=>?_
   ·
    simp [ee] at c4
    refine Aq ?_
    refine zP rfl rfl ?_
    exact Fz.none (.tup' ⟨.of (congrArg bool (by rw [hR];symm;first | exact decide_eq_true (by omega) | exact decide_eq_false (by omega))),.of (congrArg bool (by rw [hR2];symm;first | exact decide_eq_true (by omega) | exact decide_eq_false (by omega))),trivial⟩)
   simp [ee] at c4
   refine Aq ?_
   refine zP rfl rfl ?_
   exact Fz.none (.tup' ⟨.of (congrArg bool (by rw [hR];symm;first | exact decide_eq_true (by omega) | exact decide_eq_false (by omega))),.of (congrArg bool (by rw [hR2];symm;first | exact decide_eq_true (by omega) | exact decide_eq_false (by omega))),trivial⟩)
  simp [ee] at c3
  refine goA 0 ?_
  refine oC (fun c5=>?_) fun c5=>?_
  ·
   simp [ee] at c5
   refine Aq ?_
   refine zP rfl rfl ?_
   exact Fz.none (.tup' ⟨.of (congrArg bool (by rw [hR];symm;first | exact decide_eq_true (by omega) | exact decide_eq_false (by omega))),.of (congrArg bool (by rw [hR2];symm;first | exact decide_eq_true (by omega) | exact decide_eq_false (by omega))),trivial⟩)
  simp [ee] at c5
  refine Aq ?_
  refine zP rfl rfl ?_
  exact Fz.none (.tup' ⟨.of (congrArg bool (by rw [hR];symm;first | exact decide_eq_true (by omega) | exact decide_eq_false (by omega))),.of (congrArg bool (by rw [hR2];symm;first | exact decide_eq_true (by omega) | exact decide_eq_false (by omega))),trivial⟩)
 simp [ee] at c1
 refine goA 0 ?_
 refine oC (fun c6=>?_) fun c6=>?_
 ·
  simp [ee] at c6
  refine Aq ?_
  refine zP rfl rfl ?_
  exact Fz.none (.tup' ⟨.of (congrArg bool (by rw [hR];symm;first | exact decide_eq_true (by omega) | exact decide_eq_false (by omega))),.of (congrArg bool (by rw [hR2];symm;first | exact decide_eq_true (by omega) | exact decide_eq_false (by omega))),trivial⟩)
 simp [ee] at c6
 refine goA 0 ?_
 refine oC (fun c7=>?_) fun c7=>?_
 ·
  simp [ee] at c7
  refine goA 0 ?_
  refine oC (fun c8=>?_) fun c8=>?_
  ·
   simp [ee] at c8
   refine Aq ?_
   refine zP rfl rfl ?_
   exact Fz.none (.tup' ⟨.of (congrArg bool (by rw [hR];symm;first | exact decide_eq_true (by omega) | exact decide_eq_false (by omega))),.of (congrArg bool (by rw [hR2];symm;first | exact decide_eq_true (by omega) | exact decide_eq_false (by omega))),trivial⟩)
  simp [ee] at c8
  refine Aq ?_
  refine zP rfl rfl ?_
  exact Fz.none (.tup' ⟨.of (congrArg bool (by rw [hR];symm;first | exact decide_eq_true (by omega) | exact decide_eq_false (by omega))),.of (congrArg bool (by rw [hR2];symm;first | exact decide_eq_true (by omega) | exact decide_eq_false (by omega))),trivial⟩)
 simp [ee] at c7
 refine goA 0 ?_
 refine oC (fun c9=>?_) fun c9=>?_
 ·
  simp [ee] at c9
  refine Aq ?_
  refine zP rfl rfl ?_
  exact Fz.none (.tup' ⟨.of (congrArg bool (by rw [hR];symm;first | exact decide_eq_true (by omega) | exact decide_eq_false (by omega))),.of (congrArg bool (by rw [hR2];symm;first | exact decide_eq_true (by omega) | exact decide_eq_false (by omega))),trivial⟩)
 simp [ee] at c9
 refine Aq ?_
 refine zP rfl rfl ?_
 exact Fz.none (.tup' ⟨.of (congrArg bool (by rw [hR];symm;first | exact decide_eq_true (by omega) | exact decide_eq_false (by omega))),.of (congrArg bool (by rw [hR2];symm;first | exact decide_eq_true (by omega) | exact decide_eq_false (by omega))),trivial⟩)
theorem P_expr_arity (o:Int):PCall EE 166 [int o] (.tup [int (tz o),bool (uD o)]):=by
 obtain ⟨R,hR⟩:∃ R,R=tz o:=⟨_,rfl⟩
 obtain ⟨R2,hR2⟩:∃ R,R=uD o:=⟨_,rfl⟩
 rw [← hR,← hR2]
 unfold tz at hR
 unfold uD at hR2
 refine zo ?_;unhygienic intros
 refine fB T166 [.t 2,.t 3] ?_
 refine goA 0 ?_
 refine oC (fun c1=>?_) fun c1=>?_
 ·
  simp [ee] at c1
  refine Aq ?_
  refine zP rfl rfl ?_
  exact Fz.none (.tup' ⟨.of (congrArg int (by rw [hR];(repeat' split)<;>first | rfl | omega)),.of (congrArg bool (by rw [hR2];simp;omega)),trivial⟩)
 simp [ee] at c1
 refine goA 0 ?_
 refine oC (fun c2=>?_) fun c2=>?_
 ·
  simp [ee] at c2
  refine Aq ?_
  refine zP rfl rfl ?_
  exact Fz.none (.tup' ⟨.of (congrArg int (by rw [hR];(repeat' split)<;>first | rfl | omega)),.of (congrArg bool (by rw [hR2];simp;omega)),trivial⟩)
 simp [ee] at c2
 refine goA 0 ?_
 refine oC (fun c3=>?_) fun c3=>?_
 ·
  simp [ee] at c3
  refine Aq ?_
  refine zP rfl rfl ?_
  exact Fz.none (.tup' ⟨.of (congrArg int (by rw [hR];(repeat' split)<;>first | rfl | omega)),.of (congrArg bool (by rw [hR2];simp;omega)),trivial⟩)
 simp [ee] at c3
 refine Aq ?_
 refine zP rfl rfl ?_
 exact Fz.none (.tup' ⟨.of (congrArg int (by rw [hR];(repeat' split)<;>first | rfl | omega)),.of (congrArg bool (by rw [hR2];simp;omega)),trivial⟩)
def Vl0 : Vl:=⟨0,0,⟨#[]⟩⟩
theorem Vl.eq0 {v:Vl}:v=Vl0↔v.kind=0∧v.num=0∧v.text.toList=[]:=by
 have hn:(ByteArray.mk #[]).toList=[]:=by simp
 rw [← hn]
 obtain ⟨k,n,t⟩:=v
 simp only [Vl0,Vl.mk.injEq,bs_nil]
open Classical in
def Ex.consE (e:Ex):Int:=if e.val.chk≠0 then e.val.chk else if e.op=4∧(tc e.kind e.val=false∨(e.kind=1∧e.val≠Vl0)) then 9 else 0
def Ex.formB (e:Ex):Prop:=(tX e.op=true∨e.var=0)∧(tW e.op=true∨e.fld=0)∧(e.op=4∨e.kind=0)∧((e.op=4∨e.op=0)∨e.val=Vl0)
open Classical in
def Ex.nodeE (e:Ex):Int :=
 if uD e.op=false then 1 else if (e.args.length:Int)≠tz e.op then 15
 else if (tX e.op=true∧(e.var<0∨16≤e.var))∨(tW e.op=true∧(e.fld<0∨8≤e.fld)) then 2
 else if e.op=4∧(e.kind<1∨5<e.kind) then 1
 else if (e.op=4∨e.op=0)∧e.consE≠0 then e.consE
 else if e.formB then 0 else 3
theorem P_expr_constants (e:Ex):PCall EE 168 [e.enc] (int e.consE):=by
 have hs:=P_expr_suits e.kind e.val
 have hk:=P_value_Check e.val
 have h0:=@Vl.eq0 e.val
 have hcl:=Ex.closed e
 obtain ⟨R,hR⟩:∃ R,R=e.consE:=⟨_,rfl⟩
 rw [← hR]
 unfold Ex.consE at hR
 generalize tc e.kind e.val=sb at *
 generalize e.val.chk=ck at *
 obtain ⟨o,a,v,f,k,⟨xk,xn,xt⟩⟩:=e
 simp only [Ex.op,Ex.kind,Ex.val] at *
 rw [Ex.enc_mk] at hcl ⊢
 unfold Vl.enc Vl.cs at *
 dsimp only at *
 refine zo ?_;unhygienic intros
 generalize zy Ex.enc a=es at *
 refine fB T168 [.t 2] ?_
 refine Aq ?_
 refine oPA hk ?_
 refine goA 0 ?_
 refine oC (fun c1=>?_) fun c1=>?_
 ·
  simp [ee] at c1
  refine Aq ?_
  exact fG
 simp [ee] at c1
 refine goA 0 ?_
 refine zG rfl rfl (fun c2=>?_) (fun c2=>?_)
 ·
  simp [ee] at c2
  refine Aq ?_
  refine oPG hs ?_
  refine goA 0 ?_
  refine goA 1 ?_
  refine goA 1 ?_
  refine nsB hX (by conv=>lhs;cbv) ?_
  refine goA 0 ?_
  refine oC (fun c3=>?_) fun c3=>?_
  ·
   simp [ee] at c3
   refine Aq ?_
   exact fG
  simp [ee] at c3
  refine Aq ?_
  exact fG
 simp [ee] at c2
 refine Aq ?_
 refine zZ rfl rfl ?_
 refine Aq ?_
 exact fG
theorem P_expr_node (e:Ex) (hlen:e.args.length<1048576):PCall EE 143 [e.enc] (int e.nodeE):=by
 have hu:=P_expr_uses e.op
 have har:=P_expr_arity e.op
 have hk:=P_expr_constants e
 have h0:=@Vl.eq0 e.val
 have hcl:=Ex.closed e
 obtain ⟨R,hR⟩:∃ R,R=e.nodeE:=⟨_,rfl⟩
 rw [← hR]
 unfold Ex.nodeE Ex.formB at hR
 generalize tX e.op=uv at *
 generalize tW e.op=uf at *
 generalize tz e.op=an at *
 generalize uD e.op=ab at *
 generalize e.consE=ck at *
 obtain ⟨o,a,v,f,k,⟨xk,xn,xt⟩⟩:=e
 simp only [Ex.op,Ex.kind,Ex.val,Ex.args,Ex.var,Ex.fld] at *
 rw [Ex.enc_mk] at hcl hk ⊢
 dsimp only at *
 refine zo ?_;unhygienic intros
 generalize hes:zy Ex.enc a=es at *
 have hel:es.length=a.length:=by rw [← hes,zp]
 refine fB T143 [.t 2] ?_
 refine Aq ?_
 refine oPA har ?_
 refine goA 0 ?_
 refine oC (fun c1=>?_) fun c1=>?_
 ·
  simp [ee] at c1
  refine Aq ?_
  exact fG
 simp [ee] at c1
 refine goA 0 ?_
 refine oC (fun c2=>?_) fun c2=>?_
 ·
  simp [ee] at c2
  refine Aq ?_
  exact fG
 simp [ee] at c2
 refine Aq ?_
 refine oPA hu ?_
 refine goA 0 ?_
 refine nsB hX (by conv=>lhs;cbv) ?_
 refine goA 0 ?_
 refine nsB hX (by conv=>lhs;cbv) ?_
 refine goA 0 ?_
 refine oC (fun c3=>?_) fun c3=>?_
 ·
  simp [ee] at c3
  refine Aq ?_
  exact fG
 simp [ee] at c3
 refine goA 0 ?_
 refine nsB hX (by conv=>lhs;cbv) ?_
 refine goA 0 ?_
 refine oC (fun c4=>?_) fun c4=>?_
 ·
  simp [ee] at c4
  refine Aq ?_
  exact fG
 simp [ee] at c4
 refine goA 0 ?_
 refine oC (fun c5=>?_) fun c5=>?_
 ·
  simp [ee] at c5
  refine Aq ?_
  refine oPA hk ?_
  refine goA 0 ?_
  refine oC (fun c6=>?_) fun c6=>?_
  ·
   simp [ee] at c6
   refine Aq ?_
   exact fG
  simp [ee] at c6
  refine goA 0 ?_
  refine nsB hX (by conv=>lhs;cbv) ?_
  refine goA 0 ?_
  refine nsB hX (by conv=>lhs;cbv) ?_
  refine goA 0 ?_
  refine nsB hX (by conv=>lhs;cbv) ?_
  refine goA 0 ?_
  refine oC (fun c7=>?_) fun c7=>?_
  ·
   simp [ee] at c7
   refine Aq ?_
   exact fG
  simp [ee] at c7
  refine Aq ?_
  exact fG
 simp [ee] at c5
 refine goA 0 ?_
 refine nsB hX (by conv=>lhs;cbv) ?_
 refine goA 0 ?_
 refine nsB hX (by conv=>lhs;cbv) ?_
 refine goA 0 ?_
 refine nsB hX (by conv=>lhs;cbv) ?_
 refine goA 0 ?_
 refine oC (fun c8=>?_) fun c8=>?_
 ·
  simp [ee] at c8
  refine Aq ?_
  exact fG
 simp [ee] at c8
 refine Aq ?_
 exact fG
theorem P_expr_Size : ∀ p:Ex,p.Sm→PCall EE 141 [p.enc] (.tup [int p.cnt,int p.dep]):=by
 refine Ex.ind ?_
 intro o a v f k x ih hs
 have hlen:=hs.len
 have hih:∀ q∈a,PCall EE 141 [q.enc] (.tup [int q.cnt,int q.dep]):=fun q hq=>ih q hq (hs.arg hq)
 have hcl:=Ex.closedI a
 unfold Ex.Sm at hs
 have hcnt:=hs
 simp only [Ex.cnt] at hcnt
 have hde:=fun q:Ex=>Ex.dep_le q
 simp only [Ex.cnt,Ex.dep]
 rw [Ex.enc_mk]
 refine zo ?_;unhygienic intros
 generalize hes:zy Ex.enc a=es at *
 have hel:es.length=a.length:=by rw [← hes,zp]
 refine fB T141 [.t 2,.t 3] ?_
 refine Aq ?_
 refine ze (ι:=List Ex × List Ex × Int × Int × Int) (fun p=>([(5,int p.2.2.2.2),(4,int p.2.2.2.1),(13,int p.2.2.1),(12,int (lenA es)),(11,.isl 8 es)],[])) (fun p=>a=p.1++p.2.1∧p.2.2.1=p.1.length∧p.2.2.2.1=1+Ex.cntL p.1∧Ex.depL 0 a=Ex.depL p.2.2.2.2.toNat p.2.1∧0≤p.2.2.2.2∧p.2.2.2.2≤1048576) (fun p=>p.2.1.length) ([],a,0,1,0) ⟨rfl,rfl,rfl,rfl,by simp⟩ ?_ ?_
 · exact (eS [.gone] [])
 rintro ⟨d,r,i,nn,dd⟩ ⟨g1,gi,gn,gd,gb⟩
 dsimp only at g1 gi gn gd gb ⊢
 cases r with
 | nil =>
  have L1:=lS g1
  have hc:iLt i (lenA es)=false:=xR e_iLt e_lenA (by omega)
  rw [List.append_nil] at g1
  rw [gd,Ex.depL,g1]
  have ha1:iAdd .i64 dd 1=((dd.toNat+1:Nat):Int):=by rw [uh e_iAdd (by omega) (by omega)];omega
  have hn:nn=((1+Ex.cntL d:Nat):Int):=by omega
  have fz:=hc
  refine Cq ?_
  refine Aq ?_
  refine zk ?_
  refine Aq ?_
  refine zP rfl rfl ?_
  exact ⟨[],trivial,.tup' ⟨.of (congrArg int hn),.of (congrArg int ha1),trivial⟩⟩
 | cons q r =>
  have L1:=lS g1
  have hc:iLt i (lenA es)=true:=xU e_iLt e_lenA (by omega)
  have hat:=yX e_atA hes g1 gi
  have hq:=hih q (by rw [g1];simp)
  have hqc:=Ex.closed q
  have hqd:=hde q
  rw [g1,Ex.cntL_append,Ex.cntL] at hcnt
  obtain ⟨qO,qA,qV,qF,qK,qXk,qXn,qXt,hx⟩:=Ex.form q
  rw [hx] at hq hat hqc
  generalize hqn:(q.cnt:Int)=qn at hq
  generalize hqp:(q.dep:Int)=qp at hq
  have hn2:iAdd .i64 nn qn=1+Ex.cntL (d++[q]):=by rw [Ex.cntL_append,Ex.cntL,Ex.cntL,uh e_iAdd (by omega) (by omega)];omega
  have hi2:iAdd .i64 i 1=((d++[q]).length:Int):=by rw [List.length_append];exact yh e_iAdd gi (by omega)
  have hd2:iMax dd qp=((max dd.toNat q.dep:Nat):Int):=by simp only [ee];split<;>omega
  have fz:=And.intro hc hat
  refine Cq ?_
  refine Cr ?_
  refine oPA hq ?_
  refine Aq ?_
  refine zm (d++[q],r,iAdd .i64 i 1,iAdd .i64 nn qn,iMax dd qp) ⟨by simp [g1],hi2,hn2,by rw [gd,hd2,Ex.depL];rfl,by show 0≤iMax dd qp;omega,by show iMax dd qp≤1048576;omega⟩ (by simp) (eS [.gone] [])
def zU {α:Type} (F:α→Int):List α→Int
 | []=>0
 | q :: r=>if F q≠0 then F q else zU F r
theorem firstE_append {α:Type} (F:α→Int):∀ a b:List α,zU F (a++b)=if zU F a≠0 then zU F a else zU F b
 | [],b=>by simp [zU]
 | q :: a,b=>by
  rw [List.cons_append,zU,zU,firstE_append F a b]
  by_cases h:F q=0<;>simp [h]
theorem P_expr_visit (g:FuncId) (cs:List AV) (hcs:AV.closedL cs=true) (F:Ex→Int):∀ e:Ex,e.Sm→(∀ q∈e.nodes,PCall EE g ([q.enc]++cs) (int (F q)))→PCall EE 142 [e.enc,.fn g cs] (int (zU F e.nodes)):=by
 refine Ex.ind ?_
 intro o a v f k x ih hs hF
 have hlen:=hs.len
 have hih:∀ q∈a,PCall EE 142 [q.enc,.fn g cs] (int (zU F q.nodes)):=fun q hq=>ih q hq (hs.arg hq) fun q2 hq2=>hF q2 (by
  rw [Ex.nodes]
  obtain ⟨d,r,rfl⟩:=List.append_of_mem hq
  simp [Ex.nodesL_append,Ex.nodesL,hq2])
 have hcl:=Ex.closedI a
 obtain ⟨pp,hpp⟩:∃ pp,pp=Ex.mk o a v f k x:=⟨_,rfl⟩
 have hh:=hF pp (by rw [Ex.nodes,hpp];simp)
 have hpe:pp.enc=(Ex.mk o a v f k x).enc:=by rw [hpp]
 rw [Ex.nodes,← hpp]
 obtain ⟨xk,xn,xt⟩:=x
 rw [Ex.enc_mk] at hpe
 dsimp only at hpe
 have hpc:=Ex.closed pp
 rw [hpe] at hh hpc ⊢
 obtain ⟨R,hR⟩:∃ R,R=zU F (pp :: Ex.nodesL a):=⟨_,rfl⟩
 rw [← hR]
 rw [zU] at hR
 have hfn:(AV.fn g cs).closed=true:=by simp [AV.closed,hcs]
 clear ih hs hF hpp hpe
 refine zo ?_;unhygienic intros
 generalize hes:zy Ex.enc a=es at *
 have hel:es.length=a.length:=by rw [← hes,zp]
 generalize F pp=fp at *
 refine fB T142 [.t 4] ?_
 by_cases h1:fp=0
 rotate_left
 · have w1:iNe fp 0=true:=by simp only [ee];simpa using h1
   have hR:R=fp:=by rw [hR,if_pos h1]
   refine Aq ?_
   refine yK (args:=[AV.agg [int o,AV.isl 8 es,int v,int f,int k,int xk,int xn,str xt]]++cs) rfl rfl rfl rfl hh (by simp [AV.closedL,hpc,hcs]) ?_
   have fz:=w1
   refine Cq ?_
   refine Aq ?_
   exact fI (h:=hR.symm)
 have w1:iNe fp 0=false:=by simp only [ee];simpa using h1
 have hR:R=zU F (Ex.nodesL a):=by rw [hR,if_neg (by simpa using h1)]
 refine Aq ?_
 refine yK (args:=[AV.agg [int o,AV.isl 8 es,int v,int f,int k,int xk,int xn,str xt]]++cs) rfl rfl rfl rfl hh (by simp [AV.closedL,hpc,hcs]) ?_
 have fz:=w1
 refine Cq ?_
 refine Aq ?_
 refine ze (ι:=List Ex × List Ex × Int) (fun p=>([(18,int p.2.2),(17,int (lenA es)),(16,.isl 8 es),(1,.fn g cs)],[])) (fun p=>a=p.1++p.2.1∧p.2.2=p.1.length∧R=zU F (Ex.nodesL p.2.1)) (fun p=>p.2.1.length) ([],a,0) ⟨rfl,rfl,hR⟩ ?_ ?_
 · exact (eS [.gone] [])
 rintro ⟨d,r,i⟩ ⟨g1,gi,gR⟩
 dsimp only at g1 gi gR ⊢
 cases r with
 | nil =>
  have L1:=lS g1
  have hc:iLt i (lenA es)=false:=xR e_iLt e_lenA (by omega)
  have gR:R=0:=gR
  have fz:=hc
  refine Cq ?_
  refine Aq ?_
  refine zk ?_
  refine Aq ?_
  exact fI (h:=gR.symm)
 | cons q r =>
  have L1:=lS g1
  have hc:iLt i (lenA es)=true:=xU e_iLt e_lenA (by omega)
  have hat:=yX e_atA hes g1 gi
  have hq:=hih q (by rw [g1];simp)
  have hqc:=Ex.closed q
  rw [Ex.nodesL,firstE_append] at gR
  obtain ⟨qO,qA,qV,qF,qK,qXk,qXn,qXt,hx⟩:=Ex.form q
  rw [hx] at hat hqc hq
  have hi2:iAdd .i64 i 1=((d++[q]).length:Int):=by rw [List.length_append];exact yh e_iAdd gi (by omega)
  generalize zU F q.nodes=fq at *
  by_cases h2:fq=0
  · have w2:iNe fq 0=false:=by simp only [ee];simpa using h2
    rw [if_neg (by simpa using h2)] at gR
    have fz:=And.intro hc (And.intro hat w2)
    refine Cq ?_
    refine Cr ?_
    refine oPA hq ?_
    refine Cq ?_
    refine Aq ?_
    refine zm (d++[q],r,iAdd .i64 i 1) ⟨by simp [g1],hi2,gR⟩ (by simp) (eS [.gone] [])
  have w2:iNe fq 0=true:=by simp only [ee];simpa using h2
  rw [if_pos h2] at gR
  have fz:=And.intro hc (And.intro hat w2)
  refine Cq ?_
  refine Cr ?_
  refine oPA hq ?_
  refine Cq ?_
  refine Aq ?_
  refine zf ?_
  refine Aq ?_
  exact fI (h:=gR.symm)
def Ex.chk (e:Ex):Int:=if 64<e.cnt then 5 else if 12<e.dep then 12 else zU Ex.nodeE e.nodes
theorem Ex.Sm.len' {e:Ex} (h:e.Sm):e.args.length<1048576:=by obtain ⟨o,a,v,f,k,x⟩:=e;exact h.len
theorem vo (e:Ex) (hs:e.Sm):PCall EE 103 [e.enc] (int e.chk):=by
 have h1:=P_expr_Size e hs
 have h2:=P_expr_visit 143 [] rfl Ex.nodeE e hs fun q hq=>P_expr_node q (hs.node q hq).len'
 have hcl:=Ex.closed e
 obtain ⟨R,hR⟩:∃ R,R=e.chk:=⟨_,rfl⟩
 rw [← hR]
 unfold Ex.chk at hR
 generalize zU Ex.nodeE e.nodes=fe at *
 obtain ⟨eO,eA,eV,eF,eK,eXk,eXn,eXt,hx⟩:=Ex.form e
 rw [hx] at h1 h2 hcl ⊢
 generalize hn:(e.cnt:Int)=cn at *
 generalize hd:(e.dep:Int)=dn at *
 refine zo ?_;unhygienic intros
 refine fB T103 [.t 2] ?_
 refine Aq ?_
 refine oPA h1 ?_
 refine goA 0 ?_
 refine oC (fun c1=>?_) fun c1=>?_
 ·
  simp [ee] at c1
  refine Aq ?_
  exact fG
 simp [ee] at c1
 refine goA 0 ?_
 refine oC (fun c2=>?_) fun c2=>?_
 ·
  simp [ee] at c2
  refine Aq ?_
  exact fG
 simp [ee] at c2
 refine Aq ?_
 refine oPA h2 ?_
 refine Aq ?_
 exact fG
def uz (o:Int):Int:=if o=0 then 0 else if o=1∨o=2∨o=3∨o=8 then 2 else 1
def tp (o:Int):Int:=if o=0 then 0 else if o=1∨o=2∨o=3 then 64 else if o=8 then 2 else 1
def yg (o:Int):Bool:=decide (o=0∨o=5∨o=9)
def wl (o:Int):Bool:=decide (o=0∨o=5∨o=7∨o=9)
def xw (o:Int):Bool:=decide (o=5∨o=6∨o=9∨o=10)
def xa (o:Int):Bool:=decide (o=6∨o=10)
theorem shape_row {o:Int} (h0:0≤o) (h1:o<11):Wd.rowA (Classical.choice vY).g o 6=[int (uz o),int (tp o),bool (yg o),bool (wl o),bool (xw o),bool (xa o)]:=by
 rw [(Classical.choice vY).h]
 obtain ⟨n,rfl⟩:∃ n:Nat,o=n:=⟨o.toNat,by omega⟩
 have:n<11:=by omega
 match n,this with
 | 0,_ | 1,_ | 2,_ | 3,_ | 4,_ | 5,_ | 6,_ | 7,_ | 8,_ | 9,_ | 10,_=>rfl
theorem P_within (u:Bool) (n m:Int):PCall EE 161 [bool u,int n,int m] (bool (decide (u=false∨(0≤n∧n≤m)))):=by
 obtain ⟨R,hR⟩:∃ R,R=decide (u=false∨(0≤n∧n≤m)):=⟨_,rfl⟩
 rw [← hR]
 refine zo ?_;unhygienic intros
 refine fB T161 [.t 6] ?_
 refine goA 0 ?_
 refine nsB hX (by conv=>lhs;cbv) ?_
 refine Aq ?_
 exact fBo (h:=by rw [hR,Bool.eq_iff_iff];simp [ee])
theorem P_unused (u:Bool) (n:Int):PCall EE 162 [bool u,int n] (bool (decide (u=true∨n=0))):=by
 obtain ⟨R,hR⟩:∃ R,R=decide (u=true∨n=0):=⟨_,rfl⟩
 rw [← hR]
 refine zo ?_;unhygienic intros
 refine fB T162 [.t 4] ?_
 refine Aq ?_
 exact fBo (h:=by rw [hR,Bool.eq_iff_iff];simp [ee])
def Ex0 : Ex:=.mk 0 [] 0 0 0 Vl0
def Pat.nodeE (p:Pat):Int:=open Classical in
 if p.op<0∨11≤p.op then 1
 else if (p.args.length:Int)<uz p.op∨tp p.op<p.args.length then 15
 else if (yg p.op=true∧(p.ty<0∨15<p.ty∨p.var<0∨15<p.var))∨(xw p.op=true∧(p.scope<0∨63<p.scope))∨(xa p.op=true∧(p.span<0∨1099511627776<p.span)) then 2
 else if wl p.op=true∧p.cond.chk≠0 then p.cond.chk
 else if (wl p.op=false∧p.cond≠Ex0)∨(yg p.op=false∧(p.ty≠0∨p.var≠0))∨(xw p.op=false∧p.scope≠0)∨(xa p.op=false∧p.span≠0) then 3
 else 0
theorem scopeF_or (o:Int):xw o=(decide (o=5∨o=9) || xa o):=by unfold xw xa;rw [Bool.eq_iff_iff];simp;omega
end Go.Am
end
