/- Contracts of the program's functions. -/
import Derived.Test.YtpfnahcfnclgdaaGreatDoorPAm7
import Derived.Test.YtpfnahcfnclgdaaGreatDoorProg
import Derived.Calls
import Derived.Control
import Derived.Laws.AppendOwn
import Derived.Laws.Cells
import Derived.Laws.CopyRow
import Derived.Laws.Entries
import Derived.Laws.IdiomCopy
import Derived.Laws.IdiomStrings
import Derived.Laws.MakeOwn
import Derived.Laws.NewBlocks
import Derived.Laws.Slices
import Derived.Laws.StructEq
import Derived.MapKept
import Derived.Orders
import Derived.ChangeKeysEq
import Derived.Lib.Overlaps
import Derived.LaidLaws
import Derived.OpenShut
import Derived.ProofKit
import Derived.ReadAgain
import Derived.SizedLaws
import Derived.Deep.CondSized
import Derived.Deep.DeepHandedRow
import Derived.Lib.LaidTab
noncomputable section
set_option maxHeartbeats 16000000
set_option maxRecDepth 100000
namespace Go.Am
open Go.Proofs
def mkC (fn:Func) (n:Nat) {c:ACode} (h:fn.body.map (yF Tryz.prog n)=some c:=by conv=>lhs;cbv):{c:ACode // fn.body.map (yF Tryz.prog n)=some c}:=⟨c,h⟩
theorem fB {E:Env} {f:FuncId} {fn:Func} {args:List AV} {v:AV} {n:Nat} (T:{c:ACode // fn.body.map (yF Tryz.prog n)=some c}) (rvs:List RV) (h:zl E n 0 (vC rvs v) (.code T.1) [] (wL 0 args) []) (hP:E.P=Tryz.prog:=by rfl) (hf:E.P.funcs[f]? = some fn:=by rfl) (hnm:(fn.name == "runtime.NumGoroutine")=false:=by decide) (hnt:fn.ntmps=n:=by rfl) (hrv:fn.results.toList.map (wE E.P)=rvs.map some:=by rfl) (hn:Nat.ble args.length n=true:=by rfl):PCall E f args v :=
 fn_body hf hnm (by rw [hP];exact T.2) hnt hrv hn h
theorem oB {E:Env} {f:FuncId} {fn:Func} {args:List AV} {v:AV} {H0:zz} {n:Nat} (T:{c:ACode // fn.body.map (yF Tryz.prog n)=some c}) (rvs:List RV) (h:zl E n 0 (OQ E n 0 rvs (fun v' H'=>v'=v∧H'=H0)) (.code T.1) [] (wL 0 args) []) (hP:E.P=Tryz.prog:=by rfl) (hf:E.P.funcs[f]? = some fn:=by rfl) (hnm:(fn.name == "runtime.NumGoroutine")=false:=by decide) (hnt:fn.ntmps=n:=by rfl) (hrv:fn.results.toList.map (wE E.P)=rvs.map some:=by rfl) (hn:Nat.ble args.length n=true:=by rfl):OCall E f args v H0 :=
 ocall_body hf hnm (by rw [hP];exact T.2) hnt hrv hn h
theorem rB {E:Env} {f:FuncId} {fn:Func} {args:List AV} {H:zz} {R:AV→zz→Prop} {n:Nat} (T:{c:ACode // fn.body.map (yF Tryz.prog n)=some c}) (rvs:List RV) (h:zl E n H.length (OQ E n H.length rvs R) (.code T.1) [] (wL 0 args) H) (hP:E.P=Tryz.prog:=by rfl) (hf:E.P.funcs[f]? = some fn:=by rfl) (hnt:fn.ntmps=n:=by rfl) (hrv:fn.results.toList.map (wE E.P)=rvs.map some:=by rfl) (hn:Nat.ble args.length n=true:=by rfl):ACall E f args H R :=
 rcall_body hf (by rw [hP];exact T.2) hnt hrv hn h
theorem nB {E:Env} {N:Nat} {f:FuncId} {fn:Func} {args:List AV} {H:zz} {R:AV→zz→Prop} {n:Nat} (T:{c:ACode // fn.body.map (yF Tryz.prog n)=some c}) (rvs:List RV) (h:zl E n N (OQ E n N rvs R) (.code T.1) [] (wL 0 args) H) (hP:E.P=Tryz.prog:=by rfl) (hf:E.P.funcs[f]? = some fn:=by rfl) (hnt:fn.ntmps=n:=by rfl) (hrv:fn.results.toList.map (wE E.P)=rvs.map some:=by rfl) (hn:Nat.ble args.length n=true:=by rfl):ACallN E N f args H R :=
 rcallN_body hf (by rw [hP];exact T.2) hnt hrv hn h
theorem fV {E:Env} {n N:Nat} {rvs:List RV} {u v:Value} {F:AFr} {H:zz} {vs:List AV} (h1:w7 F H rvs=some vs:=by rfl) (h2:wP vs=.val u:=by rfl) (h3:u=v:=by rfl):zl E n N (vC rvs (.val v)) (.out .ret) [] F H:=zP h1 h2 (.val h3)
theorem fI {E:Env} {n N:Nat} {rvs:List RV} {a b:Int} {F:AFr} {H:zz} {vs:List AV} (h1:w7 F H rvs=some vs:=by rfl) (h2:wP vs=.val (.int .i64 a):=by rfl) (h:a=b):zl E n N (vC rvs (.val (.int .i64 b))) (.out .ret) [] F H:=zP h1 h2 (.val (congrArg (Value.int .i64) h))
theorem fBo {E:Env} {n N:Nat} {rvs:List RV} {a b:Bool} {F:AFr} {H:zz} {vs:List AV} (h1:w7 F H rvs=some vs:=by rfl) (h2:wP vs=.val (.bool a):=by rfl) (h:a=b):zl E n N (vC rvs (.val (.bool b))) (.out .ret) [] F H:=zP h1 h2 (.val (congrArg Value.bool h))
theorem oC {E:Env} {n N:Nat} {Q:zL→AFr→zz→Prop} {k:List KI} {F:AFr} {H:zz} {x:Opd} {a b:ACode} {t:Bool} (h1:t=true→zl E n N Q (.code a) k F H) (h2:t=false→zl E n N Q (.code b) k F H) (hx:x.ev E.G F=.val (.bool t):=by rfl):zl E n N Q (.code (.cond x a b)) k F H:=on_cond hx h1 h2
theorem goC {E:Env} {n N:Nat} {Q:zL→AFr→zz→Prop} (g:Nat) {X:xg} {cur:Cur} {k:List KI} {F:AFr} {H:zz} {c:Cd} {cur':Cur} {k':List KI} {F':AFr} {H':zz} (h:zl E n N Q cur' k' F' H') (hXs:X=std:=by exact hX) (hm:E.P.follows .mixedOrders=true:=by exact rfl) (he:exec X E.G 1000 g cur k F H=(c,cur',k',F',H'):=by conv=>lhs;cbv;try simp only [fz];cbv;try simp only [fz];cbv;try simp only [fz];cbv;try simp only [fz];cbv) (hc:c.ok:=by first | exact trivial | (simp only [Cd.ok,ee];and_intros<;>first | omega | rfl | (simp<;>omega))):zl E n N Q cur k F H:=go hm hXs g he hc h
theorem tgC {E:Env} {X:xg} {l:List AOper} {F:AFr} {H:zz} {K:List Kd→List zz→AFr→zz→Prop} {c:Cd} {rest:List AOper} {F':AFr} {H':zz} {ks:List Kd} {Hs:List zz} (h:TR E rest F' H' (fun k2 H2=>K (ks++k2) (Hs++H2))) (hXs:X=std:=by exact hX) (he:sg X E.G 1000 l F H=(c,rest,F',H',ks,Hs):=by conv=>lhs;cbv;try simp only [fz];cbv;try simp only [fz];cbv;try simp only [fz];cbv;try simp only [fz];cbv) (hc:c.ok:=by first | exact trivial | (simp only [Cd.ok,ee];and_intros<;>first | omega | rfl | (simp<;>omega))):TR E l F H K:=ru hXs he hc h
theorem fG {E:Env} {n N:Nat} {rvs:List RV} {a b:Int} {F:AFr} {H:zz} {vs:List AV} (h1:w7 F H rvs=some vs:=by rfl) (h2:wP vs=.val (.int .i64 a):=by rfl) (h:a=b:=by rw [hR];clear ee hX;grind):zl E n N (vC rvs (.val (.int .i64 b))) (.out .ret) [] F H:=zP h1 h2 (.val (congrArg (Value.int .i64) h))
theorem lS {α:Type} {l d r:List α} {p:Prop} (h:l=d++r) (e:(l.length=d.length+r.length)=p:=by conv=>lhs;try simp only [List.length]):p:=e.mp (by rw [h,List.length_append])
abbrev Aq {E:Env} {n N:Nat} {Q:zL→AFr→zz→Prop}:=@goA E n N Q 60
abbrev Cq {E:Env} {n N:Nat} {Q:zL→AFr→zz→Prop}:=@goC E n N Q 0
abbrev Cr {E:Env} {n N:Nat} {Q:zL→AFr→zz→Prop}:=@goC E n N Q 1
theorem eS {E:Env} {n:Nat} {F F':AFr} {H H':zz} (L:List Sub) (T:List (Option Nat)) (h1:SubL H H'.length T (ofL L) 0 L:=by repeat' (first | exact trivial | (refine ⟨⟨by simp,rfl⟩,?_⟩) | (refine ⟨trivial,?_⟩) | (refine ⟨⟨_,rfl,(zw _ (by first | assumption | rfl)).symm⟩,?_⟩))) (h2:ObjL H H'.length (ofL L) (ofT T) 0 H':=by repeat' (first | exact trivial | (refine ⟨zx (by rfl) rfl rfl (by repeat' (first | exact trivial | (refine ⟨.refl _,?_⟩) | (refine ⟨.cl (by first | assumption | rfl),?_⟩) | (refine ⟨.of (xm rfl (by first | assumption | (symm;assumption) | omega)),?_⟩) | (refine ⟨.nilS _ _ _ (by simp),?_⟩) | (refine ⟨.nilI _,?_⟩) | (refine ⟨.undef _,?_⟩))),?_⟩) | (refine ⟨zR (by rfl) rfl rfl rfl (by first | assumption | rfl),?_⟩) | (refine ⟨zR (by rfl) rfl rfl (zw _ (by assumption)) (by assumption),?_⟩) | (refine ⟨osrc_amap (by rfl) rfl rfl rfl (by first | assumption | rfl),?_⟩) | (refine ⟨.none _ rfl,?_⟩) | (refine ⟨.dead,?_⟩))) (h3:FWk H'.length (ofL L) F F':=by repeat' (first | exact trivial | (refine ⟨.refl _,?_⟩) | (refine ⟨.cl (by first | assumption | rfl),?_⟩) | (refine ⟨.of (xm rfl (by first | assumption | (symm;assumption) | omega)),?_⟩) | (refine ⟨.nilS _ _ _ (by simp),?_⟩) | (refine ⟨.nilI _,?_⟩) | (refine ⟨.undef _,?_⟩))):Ent E n 0 F H F' H':=ya L T h1 h2 h3
theorem fE {E:Env} {n N:Nat} {rvs:List RV} {v u:AV} {F:AFr} {H:zz} {vs:List AV} (L:List Sub) (h1:w7 F H rvs=some vs:=by rfl) (h2:wP vs=u:=by rfl) (h3:SubL H 0 [] (ofL L) 0 L:=by repeat' (first | exact trivial | (refine ⟨⟨by simp,rfl⟩,?_⟩) | (refine ⟨trivial,?_⟩) | (refine ⟨⟨_,rfl,(zw _ (by first | assumption | rfl)).symm⟩,?_⟩))) (h4:Wk 0 (u.sub (ofL L)) v:=by first | exact .refl _ | exact .cl (by first | assumption | rfl) | exact .of rfl | exact .of (xm rfl (by first | assumption | omega)) | exact .tup' (by repeat' (first | exact trivial | (refine ⟨.refl _,?_⟩) | (refine ⟨.cl (by first | assumption | rfl),?_⟩) | (refine ⟨.of (xm rfl (by first | assumption | (symm;assumption) | omega)),?_⟩) | (refine ⟨.nilS _ _ _ (by simp),?_⟩) | (refine ⟨.nilI _,?_⟩) | (refine ⟨.undef _,?_⟩))) | exact .agg' (by repeat' (first | exact trivial | (refine ⟨.refl _,?_⟩) | (refine ⟨.cl (by first | assumption | rfl),?_⟩) | (refine ⟨.of (xm rfl (by first | assumption | (symm;assumption) | omega)),?_⟩) | (refine ⟨.nilS _ _ _ (by simp),?_⟩) | (refine ⟨.nilI _,?_⟩) | (refine ⟨.undef _,?_⟩)))):zl E n N (vC rvs v) (.out .ret) [] F H:=zP h1 h2 ⟨L,h3,h4⟩
end Go.Am
end
