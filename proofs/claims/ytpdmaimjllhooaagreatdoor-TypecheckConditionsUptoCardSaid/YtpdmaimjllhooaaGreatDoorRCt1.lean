/- Contracts of the program's functions. -/
import Derived.Test.YtpdmaimjllhooaaGreatDoorRAm6
import Derived.Test.YtpdmaimjllhooaaGreatDoorProg
import Derived.Test.YtpdmaimjllhooaaGreatDoorCards
import Derived.Test.YtpdmaimjllhooaaGreatDoorRows
import Derived.Test.YtpdmaimjllhooaaGreatDoorTie
import Derived.Calls
import Derived.Control
import Derived.Laws.AppendOwn
import Derived.Laws.Cells
import Derived.Laws.CopyRow
import Derived.Laws.Entries
import Derived.Laws.IdiomCopy
import Derived.Laws.IdiomStrings
import Derived.Laws.MakeOwn
import Derived.Laws.NewBlocks
import Derived.Laws.Slices
import Derived.Laws.StructEq
import Derived.MapKept
import Derived.Orders
import Derived.ChangeKeysEq
import Derived.Lib.Overlaps
import Derived.LaidLaws
import Derived.OpenShut
import Derived.ProofKit
import Derived.ReadAgain
import Derived.SizedLaws
import Derived.Deep.CondSized
import Derived.Deep.DeepHandedRow
import Derived.Lib.LaidTab
import Derived.Shelf.Slices.CompactI
import Derived.Shelf.Slices.In.SortNone
import Derived.Shelf.Sort.Plain
import Derived.Shelf.Strings.Builder1
import Derived.Shelf.Strings.Cut
import Derived.Shelf.Strings.Prefix
import Derived.Shelf.Strings.Split
import Derived.Sort.OwnSortedInts
import Derived.Ground.Names2Prog
import Derived.Shelf.Bits.Mul64
import Derived.Lib.IndexMore
import Derived.Shelf.LaysM
import Derived.Shelf.Strings.Search1
import Derived.Shelf.Strings.Search2
import Derived.Shelf.Strings.Search3
import Derived.Shelf.Strings.Shaped
import Derived.Shelf.Vars
section
set_option maxHeartbeats 16000000
set_option maxRecDepth 100000
namespace Go.Am
open Go.Proofs
noncomputable def mkC (fn:Func) (n:Nat) {c:ACode} (h:fn.body.map (yj Tryz.prog n)=some c:=by conv=>lhs;cbv):{c:ACode // fn.body.map (yj Tryz.prog n)=some c}:=⟨c,h⟩
theorem fB {E:Env} {f:FuncId} {fn:Func} {args:List AV} {v:AV} {n:Nat} (T:{c:ACode // fn.body.map (yj Tryz.prog n)=some c}) (rvs:List RV) (h:Holds E n 0 (tO rvs v) (.code T.1) [] (xF 0 args) []) (hP:E.P=Tryz.prog:=by rfl) (hf:E.P.funcs[f]? = some fn:=by rfl) (hnm:(fn.name == "runtime.NumGoroutine")=false:=by decide) (hnt:fn.ntmps=n:=by rfl) (hrv:fn.results.toList.map (x9 E.P)=rvs.map some:=by rfl) (hn:Nat.ble args.length n=true:=by rfl):PCall E f args v :=
 fn_body hf hnm (by rw [hP];exact T.2) hnt hrv hn h
theorem oB {E:Env} {f:FuncId} {fn:Func} {args:List AV} {v:AV} {H0:zz} {n:Nat} (T:{c:ACode // fn.body.map (yj Tryz.prog n)=some c}) (rvs:List RV) (h:Holds E n 0 (OQ E n 0 rvs (fun v' H'=>v'=v∧H'=H0)) (.code T.1) [] (xF 0 args) []) (hP:E.P=Tryz.prog:=by rfl) (hf:E.P.funcs[f]? = some fn:=by rfl) (hnm:(fn.name == "runtime.NumGoroutine")=false:=by decide) (hnt:fn.ntmps=n:=by rfl) (hrv:fn.results.toList.map (x9 E.P)=rvs.map some:=by rfl) (hn:Nat.ble args.length n=true:=by rfl):OCall E f args v H0 :=
 ocall_body hf hnm (by rw [hP];exact T.2) hnt hrv hn h
theorem rB {E:Env} {f:FuncId} {fn:Func} {args:List AV} {H:zz} {R:AV→zz→Prop} {n:Nat} (T:{c:ACode // fn.body.map (yj Tryz.prog n)=some c}) (rvs:List RV) (h:Holds E n H.length (OQ E n H.length rvs R) (.code T.1) [] (xF 0 args) H) (hP:E.P=Tryz.prog:=by rfl) (hf:E.P.funcs[f]? = some fn:=by rfl) (hnt:fn.ntmps=n:=by rfl) (hrv:fn.results.toList.map (x9 E.P)=rvs.map some:=by rfl) (hn:Nat.ble args.length n=true:=by rfl):ACall E f args H R :=
 rcall_body hf (by rw [hP];exact T.2) hnt hrv hn h
theorem nB {E:Env} {N:Nat} {f:FuncId} {fn:Func} {args:List AV} {H:zz} {R:AV→zz→Prop} {n:Nat} (T:{c:ACode // fn.body.map (yj Tryz.prog n)=some c}) (rvs:List RV) (h:Holds E n N (OQ E n N rvs R) (.code T.1) [] (xF 0 args) H) (hP:E.P=Tryz.prog:=by rfl) (hf:E.P.funcs[f]? = some fn:=by rfl) (hnt:fn.ntmps=n:=by rfl) (hrv:fn.results.toList.map (x9 E.P)=rvs.map some:=by rfl) (hn:Nat.ble args.length n=true:=by rfl):ACallN E N f args H R :=
 rcallN_body hf (by rw [hP];exact T.2) hnt hrv hn h
theorem fV {E:Env} {n N:Nat} {rvs:List RV} {u v:Value} {F:AFr} {H:zz} {vs:List AV} (h1:wx F H rvs=some vs:=by rfl) (h2:xD vs=.val u:=by rfl) (h3:u=v:=by rfl):Holds E n N (tO rvs (.val v)) (.out .ret) [] F H:=zR h1 h2 (.val h3)
theorem fI {E:Env} {n N:Nat} {rvs:List RV} {a b:Int} {F:AFr} {H:zz} {vs:List AV} (h1:wx F H rvs=some vs:=by rfl) (h2:xD vs=.val (.int .i64 a):=by rfl) (h:a=b):Holds E n N (tO rvs (.val (.int .i64 b))) (.out .ret) [] F H:=zR h1 h2 (.val (congrArg (Value.int .i64) h))
theorem fBo {E:Env} {n N:Nat} {rvs:List RV} {a b:Bool} {F:AFr} {H:zz} {vs:List AV} (h1:wx F H rvs=some vs:=by rfl) (h2:xD vs=.val (.bool a):=by rfl) (h:a=b):Holds E n N (tO rvs (.val (.bool b))) (.out .ret) [] F H:=zR h1 h2 (.val (congrArg Value.bool h))
theorem oC {E:Env} {n N:Nat} {Q:zL→AFr→zz→Prop} {k:List KI} {F:AFr} {H:zz} {x:Opd} {a b:ACode} {t:Bool} (h1:t=true→Holds E n N Q (.code a) k F H) (h2:t=false→Holds E n N Q (.code b) k F H) (hx:x.ev E.G F=.val (.bool t):=by rfl):Holds E n N Q (.code (.cond x a b)) k F H:=uD hx h1 h2
theorem goC {E:Env} {n N:Nat} {Q:zL→AFr→zz→Prop} (g:Nat) {X:y4} {cur:Cur} {k:List KI} {F:AFr} {H:zz} {c:Cd} {cur':Cur} {k':List KI} {F':AFr} {H':zz} (h:Holds E n N Q cur' k' F' H') (hXs:X=std:=by exact hX) (hm:E.P.follows .mixedOrders=true:=by exact rfl) (he:exec X E.G 1000 g cur k F H=(c,cur',k',F',H'):=by conv=>lhs;cbv;try simp only [fz];cbv;try simp only [fz];cbv;try simp only [fz];cbv;try simp only [fz];cbv) (hc:c.ok:=by first | exact trivial | (simp only [Cd.ok,ee];and_intros<;>first | omega | rfl | (simp<;>omega))):Holds E n N Q cur k F H:=go hm hXs g he hc h
theorem tgC {E:Env} {X:y4} {l:List AOper} {F:AFr} {H:zz} {K:List Kd→List zz→AFr→zz→Prop} {c:Cd} {rest:List AOper} {F':AFr} {H':zz} {ks:List Kd} {Hs:List zz} (h:TR E rest F' H' (fun k2 H2=>K (ks++k2) (Hs++H2))) (hXs:X=std:=by exact hX) (he:uN X E.G 1000 l F H=(c,rest,F',H',ks,Hs):=by conv=>lhs;cbv;try simp only [fz];cbv;try simp only [fz];cbv;try simp only [fz];cbv;try simp only [fz];cbv) (hc:c.ok:=by first | exact trivial | (simp only [Cd.ok,ee];and_intros<;>first | omega | rfl | (simp<;>omega))):TR E l F H K:=tr_go hXs he hc h
theorem fG {E:Env} {n N:Nat} {rvs:List RV} {a b:Int} {F:AFr} {H:zz} {vs:List AV} (h1:wx F H rvs=some vs:=by rfl) (h2:xD vs=.val (.int .i64 a):=by rfl) (h:a=b:=by rw [hR];clear ee hX;grind):Holds E n N (tO rvs (.val (.int .i64 b))) (.out .ret) [] F H:=zR h1 h2 (.val (congrArg (Value.int .i64) h))
abbrev Aq {E:Env} {n N:Nat} {Q:zL→AFr→zz→Prop}:=@goA E n N Q 60
abbrev Cq {E:Env} {n N:Nat} {Q:zL→AFr→zz→Prop}:=@goC E n N Q 0
abbrev Cr {E:Env} {n N:Nat} {Q:zL→AFr→zz→Prop}:=@goC E n N Q 1
theorem eS {E:Env} {n:Nat} {F F':AFr} {H H':zz} (L:List Sub) (T:List (Option Nat)) (h1:SubL H H'.length T (ofL L) 0 L:=by repeat' (first | exact trivial | (refine ⟨⟨by simp,rfl⟩,?_⟩) | (refine ⟨trivial,?_⟩) | (refine ⟨⟨_,rfl,(zp _ (by first | assumption | rfl)).symm⟩,?_⟩))) (h2:ObjL H H'.length (ofL L) (ofT T) 0 H':=by repeat' (first | exact trivial | (refine ⟨ze (by rfl) rfl rfl (by repeat' (first | exact trivial | (refine ⟨.refl _,?_⟩) | (refine ⟨.cl (by first | assumption | rfl),?_⟩) | (refine ⟨.of (yh rfl (by first | assumption | (symm;assumption) | omega)),?_⟩) | (refine ⟨.nilS _ _ _ (by simp),?_⟩) | (refine ⟨.nilI _,?_⟩) | (refine ⟨.undef _,?_⟩))),?_⟩) | (refine ⟨yE (by rfl) rfl rfl rfl (by first | assumption | rfl),?_⟩) | (refine ⟨yE (by rfl) rfl rfl (zp _ (by assumption)) (by assumption),?_⟩) | (refine ⟨osrc_amap (by rfl) rfl rfl rfl (by first | assumption | rfl),?_⟩) | (refine ⟨.none _ rfl,?_⟩) | (refine ⟨.dead,?_⟩))) (h3:FWk H'.length (ofL L) F F':=by repeat' (first | exact trivial | (refine ⟨.refl _,?_⟩) | (refine ⟨.cl (by first | assumption | rfl),?_⟩) | (refine ⟨.of (yh rfl (by first | assumption | (symm;assumption) | omega)),?_⟩) | (refine ⟨.nilS _ _ _ (by simp),?_⟩) | (refine ⟨.nilI _,?_⟩) | (refine ⟨.undef _,?_⟩))):Ent E n 0 F H F' H':=zF L T h1 h2 h3
theorem eN {E:Env} {n N:Nat} {F F':AFr} {H H':zz} (L:List Sub) (T:List (Option Nat)) (h1:SubL H H'.length T (ofL L) 0 L:=by repeat' (first | exact trivial | (refine ⟨⟨by simp,rfl⟩,?_⟩) | (refine ⟨trivial,?_⟩) | (refine ⟨⟨_,rfl,(zp _ (by first | assumption | rfl)).symm⟩,?_⟩))) (h2:ObjL H H'.length (ofL L) (ofT T) 0 H':=by repeat' (first | exact trivial | (refine ⟨ze (by rfl) rfl rfl (by repeat' (first | exact trivial | (refine ⟨.refl _,?_⟩) | (refine ⟨.cl (by first | assumption | rfl),?_⟩) | (refine ⟨.of (yh rfl (by first | assumption | (symm;assumption) | omega)),?_⟩) | (refine ⟨.nilS _ _ _ (by simp),?_⟩) | (refine ⟨.nilI _,?_⟩) | (refine ⟨.undef _,?_⟩))),?_⟩) | (refine ⟨yE (by rfl) rfl rfl rfl (by first | assumption | rfl),?_⟩) | (refine ⟨yE (by rfl) rfl rfl (zp _ (by assumption)) (by assumption),?_⟩) | (refine ⟨osrc_amap (by rfl) rfl rfl rfl (by first | assumption | rfl),?_⟩) | (refine ⟨.none _ rfl,?_⟩) | (refine ⟨.dead,?_⟩))) (h3:FWk H'.length (ofL L) F F':=by repeat' (first | exact trivial | (refine ⟨.refl _,?_⟩) | (refine ⟨.cl (by first | assumption | rfl),?_⟩) | (refine ⟨.of (yh rfl (by first | assumption | (symm;assumption) | omega)),?_⟩) | (refine ⟨.nilS _ _ _ (by simp),?_⟩) | (refine ⟨.nilI _,?_⟩) | (refine ⟨.undef _,?_⟩))) (hN:tJ 0 (T.take N):=by repeat' (first | exact trivial | refine ⟨rfl,?_⟩)) (hT:N≤T.length:=by simp) (hNH:N≤H'.length:=by simp):Ent E n N F H F' H':=yR L T hN hT hNH h1 h2 h3
theorem fE {E:Env} {n N:Nat} {rvs:List RV} {v u:AV} {F:AFr} {H:zz} {vs:List AV} (L:List Sub) (h1:wx F H rvs=some vs:=by rfl) (h2:xD vs=u:=by rfl) (h3:SubL H 0 [] (ofL L) 0 L:=by repeat' (first | exact trivial | (refine ⟨⟨by simp,rfl⟩,?_⟩) | (refine ⟨trivial,?_⟩) | (refine ⟨⟨_,rfl,(zp _ (by first | assumption | rfl)).symm⟩,?_⟩))) (h4:Wk 0 (u.sub (ofL L)) v:=by first | exact .refl _ | exact .cl (by first | assumption | rfl) | exact .of rfl | exact .of (yh rfl (by first | assumption | omega)) | exact .tup' (by repeat' (first | exact trivial | (refine ⟨.refl _,?_⟩) | (refine ⟨.cl (by first | assumption | rfl),?_⟩) | (refine ⟨.of (yh rfl (by first | assumption | (symm;assumption) | omega)),?_⟩) | (refine ⟨.nilS _ _ _ (by simp),?_⟩) | (refine ⟨.nilI _,?_⟩) | (refine ⟨.undef _,?_⟩))) | exact .agg' (by repeat' (first | exact trivial | (refine ⟨.refl _,?_⟩) | (refine ⟨.cl (by first | assumption | rfl),?_⟩) | (refine ⟨.of (yh rfl (by first | assumption | (symm;assumption) | omega)),?_⟩) | (refine ⟨.nilS _ _ _ (by simp),?_⟩) | (refine ⟨.nilI _,?_⟩) | (refine ⟨.undef _,?_⟩)))):Holds E n N (tO rvs v) (.out .ret) [] F H:=zR h1 h2 ⟨L,h3,h4⟩
noncomputable def T3 := mkC Tryz.f3 33
noncomputable def T4 := mkC Tryz.f4 52
noncomputable def T5 := mkC Tryz.f5 46
noncomputable def T9 := mkC Tryz.f9 32
noncomputable def T11 := mkC Tryz.f11 29
noncomputable def T12 := mkC Tryz.f12 11
noncomputable def T13 := mkC Tryz.f13 105
noncomputable def T14 := mkC Tryz.f14 21
noncomputable def T15 := mkC Tryz.f15 21
noncomputable def T16 := mkC Tryz.f16 11
noncomputable def T17 := mkC Tryz.f17 22
noncomputable def T18 := mkC Tryz.f18 78
noncomputable def T19 := mkC Tryz.f19 20
noncomputable def T20 := mkC Tryz.f20 78
noncomputable def T21 := mkC Tryz.f21 26
noncomputable def T22 := mkC Tryz.f22 72
noncomputable def T23 := mkC Tryz.f23 26
noncomputable def T24 := mkC Tryz.f24 23
noncomputable def T25 := mkC Tryz.f25 48
noncomputable def T26 := mkC Tryz.f26 32
noncomputable def T27 := mkC Tryz.f27 20
noncomputable def T28 := mkC Tryz.f28 3
noncomputable def T30 := mkC Tryz.f30 31
noncomputable def T35 := mkC Tryz.f35 28
noncomputable def T36 := mkC Tryz.f36 45
noncomputable def T37 := mkC Tryz.f37 56
noncomputable def T40 := mkC Tryz.f40 28
noncomputable def T41 := mkC Tryz.f41 29
noncomputable def T42 := mkC Tryz.f42 22
noncomputable def T43 := mkC Tryz.f43 11
noncomputable def T44 := mkC Tryz.f44 18
noncomputable def T45 := mkC Tryz.f45 8
noncomputable def T46 := mkC Tryz.f46 49
noncomputable def T47 := mkC Tryz.f47 33
noncomputable def T48 := mkC Tryz.f48 46
noncomputable def T49 := mkC Tryz.f49 25
noncomputable def T50 := mkC Tryz.f50 10
noncomputable def T51 := mkC Tryz.f51 5
noncomputable def T52 := mkC Tryz.f52 21
noncomputable def T53 := mkC Tryz.f53 22
noncomputable def T54 := mkC Tryz.f54 13
noncomputable def T55 := mkC Tryz.f55 76
noncomputable def T56 := mkC Tryz.f56 7
noncomputable def T57 := mkC Tryz.f57 17
noncomputable def T58 := mkC Tryz.f58 64
noncomputable def T59 := mkC Tryz.f59 46
noncomputable def T60 := mkC Tryz.f60 23
noncomputable def T61 := mkC Tryz.f61 16
noncomputable def T62 := mkC Tryz.f62 42
noncomputable def T63 := mkC Tryz.f63 6
noncomputable def T64 := mkC Tryz.f64 78
noncomputable def T65 := mkC Tryz.f65 19
noncomputable def T66 := mkC Tryz.f66 12
noncomputable def T67 := mkC Tryz.f67 12
noncomputable def T68 := mkC Tryz.f68 31
noncomputable def T69 := mkC Tryz.f69 10
noncomputable def T70 := mkC Tryz.f70 43
noncomputable def T71 := mkC Tryz.f71 49
noncomputable def T72 := mkC Tryz.f72 4
noncomputable def T73 := mkC Tryz.f73 30
noncomputable def T74 := mkC Tryz.f74 5
noncomputable def T75 := mkC Tryz.f75 22
noncomputable def T76 := mkC Tryz.f76 12
noncomputable def T77 := mkC Tryz.f77 6
noncomputable def T78 := mkC Tryz.f78 12
noncomputable def T79 := mkC Tryz.f79 27
noncomputable def T80 := mkC Tryz.f80 16
noncomputable def T81 := mkC Tryz.f81 42
noncomputable def T82 := mkC Tryz.f82 6
noncomputable def T83 := mkC Tryz.f83 53
noncomputable def T84 := mkC Tryz.f84 20
noncomputable def T86 := mkC Tryz.f86 29
noncomputable def T87 := mkC Tryz.f87 22
noncomputable def T88 := mkC Tryz.f88 100
noncomputable def T89 := mkC Tryz.f89 18
noncomputable def T90 := mkC Tryz.f90 57
noncomputable def T91 := mkC Tryz.f91 31
noncomputable def T92 := mkC Tryz.f92 11
noncomputable def T93 := mkC Tryz.f93 58
noncomputable def T94 := mkC Tryz.f94 28
noncomputable def T95 := mkC Tryz.f95 4
noncomputable def T96 := mkC Tryz.f96 6
noncomputable def T97 := mkC Tryz.f97 43
noncomputable def T98 := mkC Tryz.f98 5
noncomputable def T99 := mkC Tryz.f99 11
noncomputable def T100 := mkC Tryz.f100 26
noncomputable def T101 := mkC Tryz.f101 65
noncomputable def T102 := mkC Tryz.f102 58
noncomputable def T103 := mkC Tryz.f103 59
noncomputable def T104 := mkC Tryz.f104 10
noncomputable def T105 := mkC Tryz.f105 11
noncomputable def T106 := mkC Tryz.f106 11
noncomputable def t8 := mkC Tryz.f107 43
noncomputable def T108 := mkC Tryz.f108 73
noncomputable def T109 := mkC Tryz.f109 20
noncomputable def T110 := mkC Tryz.f110 31
noncomputable def T111 := mkC Tryz.f111 71
noncomputable def T112 := mkC Tryz.f112 35
noncomputable def T113 := mkC Tryz.f113 45
noncomputable def T114 := mkC Tryz.f114 9
noncomputable def T115 := mkC Tryz.f115 16
noncomputable def T116 := mkC Tryz.f116 9
noncomputable def T117 := mkC Tryz.f117 11
noncomputable def T118 := mkC Tryz.f118 21
noncomputable def T119 := mkC Tryz.f119 21
noncomputable def T120 := mkC Tryz.f120 24
noncomputable def T121 := mkC Tryz.f121 34
noncomputable def T122 := mkC Tryz.f122 24
noncomputable def T123 := mkC Tryz.f123 4
noncomputable def T124 := mkC Tryz.f124 41
noncomputable def T125 := mkC Tryz.f125 22
noncomputable def T126 := mkC Tryz.f126 29
noncomputable def T127 := mkC Tryz.f127 10
noncomputable def T128 := mkC Tryz.f128 17
noncomputable def T129 := mkC Tryz.f129 67
noncomputable def T130 := mkC Tryz.f130 32
noncomputable def T131 := mkC Tryz.f131 29
noncomputable def T132 := mkC Tryz.f132 114
noncomputable def tR := mkC Tryz.f133 70
noncomputable def T134 := mkC Tryz.f134 38
noncomputable def T135 := mkC Tryz.f135 27
noncomputable def tP := mkC Tryz.f136 69
noncomputable def T137 := mkC Tryz.f137 39
noncomputable def T138 := mkC Tryz.f138 9
noncomputable def T139 := mkC Tryz.f139 45
noncomputable def T140 := mkC Tryz.f140 14
noncomputable def T141 := mkC Tryz.f141 9
noncomputable def T142 := mkC Tryz.f142 16
noncomputable def T143 := mkC Tryz.f143 22
noncomputable def T144 := mkC Tryz.f144 67
noncomputable def T145 := mkC Tryz.f145 18
noncomputable def T146 := mkC Tryz.f146 11
noncomputable def T147 := mkC Tryz.f147 61
noncomputable def T148 := mkC Tryz.f148 24
noncomputable def T149 := mkC Tryz.f149 35
noncomputable def T150 := mkC Tryz.f150 9
noncomputable def T151 := mkC Tryz.f151 9
noncomputable def T152 := mkC Tryz.f152 19
noncomputable def T153 := mkC Tryz.f153 9
noncomputable def T154 := mkC Tryz.f154 113
noncomputable def T155 := mkC Tryz.f155 6
noncomputable def T156 := mkC Tryz.f156 23
noncomputable def T157 := mkC Tryz.f157 21
noncomputable def T158 := mkC Tryz.f158 17
noncomputable def T159 := mkC Tryz.f159 11
noncomputable def T160 := mkC Tryz.f160 32
noncomputable def T161 := mkC Tryz.f161 16
noncomputable def T162 := mkC Tryz.f162 131
noncomputable def T163 := mkC Tryz.f163 20
noncomputable def T164 := mkC Tryz.f164 13
noncomputable def T165 := mkC Tryz.f165 36
noncomputable def T166 := mkC Tryz.f166 19
noncomputable def T167 := mkC Tryz.f167 53
noncomputable def T170 := mkC Tryz.f170 9
noncomputable def T171 := mkC Tryz.f171 21
noncomputable def T173 := mkC Tryz.f173 18
noncomputable def T174 := mkC Tryz.f174 67
noncomputable def T175 := mkC Tryz.f175 10
noncomputable def T176 := mkC Tryz.f176 18
noncomputable def T177 := mkC Tryz.f177 20
noncomputable def T178 := mkC Tryz.f178 21
noncomputable def T179 := mkC Tryz.f179 47
noncomputable def T180 := mkC Tryz.f180 27
noncomputable def T193 := mkC Tryz.f193 36
abbrev int (n:Int):AV:=.val (.int .i64 n)
abbrev bool (b:Bool):AV:=.val (.bool b)
abbrev str (s:ByteArray):AV:=.val (.string s)
structure Vl where
 kind:Int
 num:Int
 text:ByteArray
inductive Ex where
 | mk (op:Int) (args:List Ex) (var fld kind:Int) (val:Vl)
inductive Pat where
 | mk (op:Int) (args:List Pat) (ty var scope span:Int) (cond:Ex)
def Ex.op : Ex→Int | .mk o _ _ _ _ _=>o
def Ex.args : Ex→List Ex | .mk _ a _ _ _ _=>a
def Ex.var : Ex→Int | .mk _ _ v _ _ _=>v
def Ex.fld : Ex→Int | .mk _ _ _ f _ _=>f
def Ex.kind : Ex→Int | .mk _ _ _ _ k _=>k
def Ex.val : Ex→Vl | .mk _ _ _ _ _ v=>v
def Pat.op : Pat→Int | .mk o _ _ _ _ _ _=>o
def Pat.args : Pat→List Pat | .mk _ a _ _ _ _ _=>a
def Pat.ty : Pat→Int | .mk _ _ t _ _ _ _=>t
def Pat.var : Pat→Int | .mk _ _ _ v _ _ _=>v
def Pat.scope : Pat→Int | .mk _ _ _ _ s _ _=>s
def Pat.span : Pat→Int | .mk _ _ _ _ _ s _=>s
def Pat.cond : Pat→Ex | .mk _ _ _ _ _ _ c=>c
theorem Ex.ind {p:Ex→Prop} (h:∀ o a v f k x,(∀ e∈a,p e)→p (.mk o a v f k x)):∀ e,p e
 | .mk o a v f k x=>h o a v f k x fun e _he=>Ex.ind h e
termination_by e=>SizeOf.sizeOf e
decreasing_by simp;have:=List.sizeOf_lt_of_mem _he;omega
theorem Pat.ind {p:Pat→Prop} (h:∀ o a t v s n c,(∀ q∈a,p q)→p (.mk o a t v s n c)):∀ q,p q
 | .mk o a t v s n c=>h o a t v s n c fun q _hq=>Pat.ind h q
termination_by q=>SizeOf.sizeOf q
decreasing_by simp;have:=List.sizeOf_lt_of_mem _hq;omega
def Vl.cs (v:Vl):List AV:=[int v.kind,int v.num,str v.text]
def Vl.enc (v:Vl):AV:=.agg v.cs
mutual
def Ex.cs0 : Ex→List AV
 | .mk o a v f k x=>[int o,.isl 8 (Ex.csL a),int v,int f,int k,int x.kind,int x.num,str x.text]
def Ex.csL : List Ex→List AV
 | []=>[]
 | e :: r=>.agg (Ex.cs0 e) :: Ex.csL r
end
mutual
def Pat.cs0 : Pat→List AV
 | .mk o a t v s n c=>[int o,.isl 14 (Pat.csL a),int t,int v,int s,int n]++Ex.cs0 c
def Pat.csL : List Pat→List AV
 | []=>[]
 | e :: r=>.agg (Pat.cs0 e) :: Pat.csL r
end
structure EncBox where
 ex:Ex→AV
 pat:Pat→AV
 hex:∀ e,ex e=.agg (Ex.cs0 e)
 hpat:∀ e,pat e=.agg (Pat.cs0 e)
theorem encBox_ne : Nonempty EncBox:=⟨⟨fun e=>.agg (Ex.cs0 e),fun e=>.agg (Pat.cs0 e),fun _=>rfl,fun _=>rfl⟩⟩
noncomputable def Ex.enc (e:Ex):AV:=(Classical.choice encBox_ne).ex e
noncomputable def Pat.enc (e:Pat):AV:=(Classical.choice encBox_ne).pat e
theorem Ex.enc_def (e:Ex):e.enc=.agg (Ex.cs0 e):=(Classical.choice encBox_ne).hex e
theorem Pat.enc_def (e:Pat):e.enc=.agg (Pat.cs0 e):=(Classical.choice encBox_ne).hpat e
theorem Ex.csL_eq : ∀ l:List Ex,Ex.csL l=mapE Ex.enc l
 | []=>by rw [Ex.csL,zk];rfl
 | e :: r=>by rw [Ex.csL,Ex.csL_eq r,zk,zk,List.map_cons,Ex.enc_def]
theorem Pat.csL_eq : ∀ l:List Pat,Pat.csL l=mapE Pat.enc l
 | []=>by rw [Pat.csL,zk];rfl
 | e :: r=>by rw [Pat.csL,Pat.csL_eq r,zk,zk,List.map_cons,Pat.enc_def]
theorem Ex.enc_mk (o a v f k x):(Ex.mk o a v f k x).enc=.agg [int o,.isl 8 (mapE Ex.enc a),int v,int f,int k,int x.kind,int x.num,str x.text]:=by rw [Ex.enc_def,Ex.cs0,Ex.csL_eq]
theorem Pat.enc_mk (o a t v s n) (co ca cv cf ck cx):(Pat.mk o a t v s n (.mk co ca cv cf ck cx)).enc=.agg [int o,.isl 14 (mapE Pat.enc a),int t,int v,int s,int n,int co,.isl 8 (mapE Ex.enc ca),int cv,int cf,int ck,int cx.kind,int cx.num,str cx.text]:=by
 rw [Pat.enc_def,Pat.cs0,Pat.csL_eq,Ex.cs0,Ex.csL_eq];rfl
theorem Ex.form (e:Ex):∃ o es v f k xk xn xt,e.enc=.agg [int o,.isl 8 es,int v,int f,int k,int xk,int xn,str xt]:=by
 obtain ⟨o,a,v,f,k,x⟩:=e
 exact ⟨_,_,_,_,_,_,_,_,Ex.enc_mk ..⟩
theorem Pat.form (p:Pat):∃ o es t v s n co ec cv cf ck xk xn xt,p.enc=.agg [int o,.isl 14 es,int t,int v,int s,int n,int co,.isl 8 ec,int cv,int cf,int ck,int xk,int xn,str xt]:=by
 obtain ⟨o,a,t,v,s,n,⟨co,ca,cv,cf,ck,cx⟩⟩:=p
 exact ⟨_,_,_,_,_,_,_,_,_,_,_,_,_,_,Pat.enc_mk ..⟩
theorem Pat.form2 (p:Pat):∃ o es t v s n co ec cv cf ck xk xn xt,p.enc=.agg [int o,.isl 14 es,int t,int v,int s,int n,int co,.isl 8 ec,int cv,int cf,int ck,int xk,int xn,str xt] ∧
 p.cond.enc=.agg [int co,.isl 8 ec,int cv,int cf,int ck,int xk,int xn,str xt]∧o=p.op∧es=mapE Pat.enc p.args∧t=p.ty∧v=p.var∧s=p.scope∧n=p.span:=by
 obtain ⟨o,a,t,v,s,n,⟨co,ca,cv,cf,ck,cx⟩⟩:=p
 exact ⟨_,_,_,_,_,_,_,_,_,_,_,_,_,_,Pat.enc_mk ..,Ex.enc_mk ..,rfl,rfl,rfl,rfl,rfl,rfl⟩
theorem Ex.closed : ∀ e:Ex,e.enc.closed=true:=Ex.ind fun o a v f k x h=>by
 rw [Ex.enc_mk]
 simp only [AV.closed,AV.closedL,Bool.and_true,Bool.true_and]
 rw [zk]
 exact AV.closedL_of fun c hc=>by obtain ⟨e,he,rfl⟩:=List.mem_map.1 hc;exact h e he
theorem Ex.closedL (l:List Ex):AV.closedL (mapE Ex.enc l)=true:=xZ Ex.closed l
theorem Pat.closed : ∀ e:Pat,e.enc.closed=true:=Pat.ind fun o a t v s n c h=>by
 obtain ⟨co,ca,cv,cf,ck,cx⟩:=c
 rw [Pat.enc_mk]
 simp only [AV.closed,AV.closedL,Bool.and_true,Bool.true_and,Ex.closedL]
 rw [zk]
 exact AV.closedL_of fun c hc=>by obtain ⟨e,he,rfl⟩:=List.mem_map.1 hc;exact h e he
theorem Pat.closedL (l:List Pat):AV.closedL (mapE Pat.enc l)=true:=xZ Pat.closed l
theorem Ex.closedI (l:List Ex):(AV.isl 8 (mapE Ex.enc l)).closed=true:=by simp [AV.closed,Ex.closedL]
theorem Pat.closedI (l:List Pat):(AV.isl 14 (mapE Pat.enc l)).closed=true:=by simp [AV.closed,Pat.closedL]
mutual
def Ex.cnt : Ex→Nat
 | .mk _ a _ _ _ _=>1+Ex.cntL a
def Ex.cntL : List Ex→Nat
 | []=>0
 | e :: r=>e.cnt+Ex.cntL r
end
mutual
def Pat.cnt : Pat→Nat
 | .mk _ a _ _ _ _ _=>1+Pat.cntL a
def Pat.cntL : List Pat→Nat
 | []=>0
 | e :: r=>e.cnt+Pat.cntL r
end
mutual
def Pat.exs : Pat→List Ex
 | .mk _ a _ _ _ _ c=>c :: Pat.exsL a
def Pat.exsL : List Pat→List Ex
 | []=>[]
 | e :: r=>e.exs++Pat.exsL r
end
theorem Ex.cnt_mem {e:Ex}:∀ {l:List Ex},e∈l→e.cnt≤Ex.cntL l
 | x :: r,h=>by
  rcases List.mem_cons.1 h with rfl | h
  · simp [Ex.cntL]
  have:=Ex.cnt_mem h;simp [Ex.cntL];omega
theorem Pat.cnt_mem {e:Pat}:∀ {l:List Pat},e∈l→e.cnt≤Pat.cntL l
 | x :: r,h=>by
  rcases List.mem_cons.1 h with rfl | h
  · simp [Pat.cntL]
  have:=Pat.cnt_mem h;simp [Pat.cntL];omega
theorem Ex.cnt_pos (e:Ex):1≤e.cnt:=by cases e;simp [Ex.cnt]
theorem Pat.cnt_pos (e:Pat):1≤e.cnt:=by cases e;simp [Pat.cnt]
theorem Ex.cntL_len : ∀ l:List Ex,l.length≤Ex.cntL l
 | []=>by simp [Ex.cntL]
 | x :: r=>by have:=Ex.cntL_len r;have:=Ex.cnt_pos x;simp [Ex.cntL];omega
theorem Pat.cntL_len : ∀ l:List Pat,l.length≤Pat.cntL l
 | []=>by simp [Pat.cntL]
 | x :: r=>by have:=Pat.cntL_len r;have:=Pat.cnt_pos x;simp [Pat.cntL];omega
theorem Ex.cntL_append (a b:List Ex):Ex.cntL (a++b)=Ex.cntL a+Ex.cntL b:=by
 induction a with
 | nil=>simp [Ex.cntL]
 | cons x r ih=>simp [Ex.cntL,ih];omega
theorem Pat.cntL_append (a b:List Pat):Pat.cntL (a++b)=Pat.cntL a+Pat.cntL b:=by
 induction a with
 | nil=>simp [Pat.cntL]
 | cons x r ih=>simp [Pat.cntL,ih];omega
theorem Pat.exs_mem {q:Pat} {c:Ex} (hc:c∈q.exs):∀ {l:List Pat},q∈l→c∈Pat.exsL l
 | x :: r,h=>by
  rcases List.mem_cons.1 h with rfl | h
  · simp [Pat.exsL,hc]
  simp [Pat.exsL,Pat.exs_mem hc h]
def Ex.Sm (e:Ex):Prop:=e.cnt≤1048576
def Pat.Sm (p:Pat):Prop:=p.cnt≤1048576∧∀ c∈p.exs,c.Sm
theorem Ex.Sm.arg {o a v f k x} (h:(Ex.mk o a v f k x).Sm) {e:Ex} (he:e∈a):e.Sm:=by
 unfold Ex.Sm at h ⊢;have:=Ex.cnt_mem he;simp [Ex.cnt] at h;omega
theorem Ex.Sm.len {o a v f k x} (h:(Ex.mk o a v f k x).Sm):a.length<1048576:=by
 unfold Ex.Sm at h;have:=Ex.cntL_len a;simp [Ex.cnt] at h;omega
theorem Pat.Sm.arg {o a t v s n c} (h:(Pat.mk o a t v s n c).Sm) {e:Pat} (he:e∈a):e.Sm:=by
 obtain ⟨h1,h2⟩:=h
 refine ⟨?_,fun c hc=>h2 c ?_⟩
 · have:=Pat.cnt_mem he;simp [Pat.cnt] at h1;omega
 simp [Pat.exs,Pat.exs_mem hc he]
theorem Pat.Sm.len {o a t v s n c} (h:(Pat.mk o a t v s n c).Sm):a.length<1048576:=by
 have h:=h.1;have:=Pat.cntL_len a;simp [Pat.cnt] at h;omega
theorem Pat.Sm.cond {o a t v s n c} (h:(Pat.mk o a t v s n c).Sm):c.Sm:=h.2 c (by simp [Pat.exs])
mutual
def Ex.dep : Ex→Nat
 | .mk _ a _ _ _ _=>Ex.depL 0 a+1
def Ex.depL : Nat→List Ex→Nat
 | d,[]=>d
 | d,e :: r=>Ex.depL (max d e.dep) r
end
mutual
def Pat.dep : Pat→Nat
 | .mk _ a _ _ _ _ _=>Pat.depL 0 a+1
def Pat.depL : Nat→List Pat→Nat
 | d,[]=>d
 | d,e :: r=>Pat.depL (max d e.dep) r
end
theorem Ex.depL_le {l:List Ex} (h:∀ e∈l,Ex.dep e≤e.cnt):∀ d,Ex.depL d l≤max d (Ex.cntL l):=by
 induction l with
 | nil=>intro d;simp [Ex.depL];omega
 | cons e r ih =>
  intro d
  have h1:=h e (by simp)
  have h2:=ih (fun e he=>h e (by simp [he])) (max d e.dep)
  simp only [Ex.depL,Ex.cntL];omega
theorem Ex.dep_le : ∀ e:Ex,e.dep≤e.cnt:=Ex.ind fun o a v f k x h=>by
 have:=Ex.depL_le h 0
 simp only [Ex.dep,Ex.cnt];omega
theorem Pat.depL_le {l:List Pat} (h:∀ e∈l,Pat.dep e≤e.cnt):∀ d,Pat.depL d l≤max d (Pat.cntL l):=by
 induction l with
 | nil=>intro d;simp [Pat.depL];omega
 | cons e r ih =>
  intro d
  have h1:=h e (by simp)
  have h2:=ih (fun e he=>h e (by simp [he])) (max d e.dep)
  simp only [Pat.depL,Pat.cntL];omega
theorem Pat.dep_le : ∀ e:Pat,e.dep≤e.cnt:=Pat.ind fun o a t v s n c h=>by
 have:=Pat.depL_le h 0
 simp only [Pat.dep,Pat.cnt];omega
mutual
def Pat.nodes : Pat→List Pat
 | .mk o a t v s n c=>.mk o a t v s n c :: Pat.nodesL a
def Pat.nodesL : List Pat→List Pat
 | []=>[]
 | e :: r=>e.nodes++Pat.nodesL r
end
mutual
def Ex.nodes : Ex→List Ex
 | .mk o a v f k x=>.mk o a v f k x :: Ex.nodesL a
def Ex.nodesL : List Ex→List Ex
 | []=>[]
 | e :: r=>e.nodes++Ex.nodesL r
end
theorem Pat.nodesL_append (a b:List Pat):Pat.nodesL (a++b)=Pat.nodesL a++Pat.nodesL b:=by
 induction a with
 | nil=>simp [Pat.nodesL]
 | cons x r ih=>simp [Pat.nodesL,ih]
theorem Ex.nodesL_append (a b:List Ex):Ex.nodesL (a++b)=Ex.nodesL a++Ex.nodesL b:=by
 induction a with
 | nil=>simp [Ex.nodesL]
 | cons x r ih=>simp [Ex.nodesL,ih]
theorem Pat.nodesL_len {l:List Pat} (h:∀ e∈l,e.nodes.length=e.cnt):(Pat.nodesL l).length=Pat.cntL l:=by
 induction l with
 | nil=>simp [Pat.nodesL,Pat.cntL]
 | cons x r ih=>simp [Pat.nodesL,Pat.cntL,h x (by simp),ih fun e he=>h e (by simp [he])]
theorem Pat.nodes_len : ∀ p:Pat,p.nodes.length=p.cnt:=Pat.ind fun o a t v s n c h=>by
 simp [Pat.nodes,Pat.cnt,Pat.nodesL_len h];omega
theorem Pat.nodesL_len' (l:List Pat):(Pat.nodesL l).length=Pat.cntL l:=Pat.nodesL_len fun e _=>e.nodes_len
theorem Ex.nodesL_len {l:List Ex} (h:∀ e∈l,e.nodes.length=e.cnt):(Ex.nodesL l).length=Ex.cntL l:=by
 induction l with
 | nil=>simp [Ex.nodesL,Ex.cntL]
 | cons x r ih=>simp [Ex.nodesL,Ex.cntL,h x (by simp),ih fun e he=>h e (by simp [he])]
theorem Ex.nodes_len : ∀ p:Ex,p.nodes.length=p.cnt:=Ex.ind fun o a v f k x h=>by
 simp [Ex.nodes,Ex.cnt,Ex.nodesL_len h];omega
theorem Pat.nodes_eq (p:Pat):p.nodes=p :: Pat.nodesL p.args:=by obtain ⟨o,a,t,v,s,n,c⟩:=p;simp [Pat.nodes,Pat.args]
theorem Ex.nodes_eq (p:Ex):p.nodes=p :: Ex.nodesL p.args:=by obtain ⟨o,a,v,f,k,x⟩:=p;simp [Ex.nodes,Ex.args]
theorem Pat.mem_nodesL {q:Pat}:∀ {l:List Pat},q∈Pat.nodesL l→∃ e∈l,q∈e.nodes
 | [],h=>by simp [Pat.nodesL] at h
 | x :: r,h=>by
  simp only [Pat.nodesL,List.mem_append] at h
  rcases h with h | h
  · exact ⟨x,by simp,h⟩
  obtain ⟨e,he,hq⟩:=Pat.mem_nodesL h;exact ⟨e,by simp [he],hq⟩
theorem Ex.mem_nodesL {q:Ex}:∀ {l:List Ex},q∈Ex.nodesL l→∃ e∈l,q∈e.nodes
 | [],h=>by simp [Ex.nodesL] at h
 | x :: r,h=>by
  simp only [Ex.nodesL,List.mem_append] at h
  rcases h with h | h
  · exact ⟨x,by simp,h⟩
  obtain ⟨e,he,hq⟩:=Ex.mem_nodesL h;exact ⟨e,by simp [he],hq⟩
theorem Pat.Sm.node : ∀ {p:Pat},p.Sm→∀ q∈p.nodes,q.Sm:=fun {p}=>Pat.ind (p:=fun p=>p.Sm→∀ q∈p.nodes,q.Sm) (fun o a t v s n c ih hs q hq=>by
 simp only [Pat.nodes,List.mem_cons] at hq
 rcases hq with rfl | hq
 · exact hs
 obtain ⟨e,he,hq⟩:=Pat.mem_nodesL hq
 exact ih e he (hs.arg he) q hq) p
theorem Ex.Sm.node : ∀ {p:Ex},p.Sm→∀ q∈p.nodes,q.Sm:=fun {p}=>Ex.ind (p:=fun p=>p.Sm→∀ q∈p.nodes,q.Sm) (fun o a v f k x ih hs q hq=>by
 simp only [Ex.nodes,List.mem_cons] at hq
 rcases hq with rfl | hq
 · exact hs
 obtain ⟨e,he,hq⟩:=Ex.mem_nodesL hq
 exact ih e he (hs.arg he) q hq) p
theorem Pat.Sm.cond' {p:Pat} (h:p.Sm):p.cond.Sm:=by obtain ⟨o,a,t,v,s,n,c⟩:=p;exact h.cond
theorem fitL {α:Type} {k:Nat} {enc:α→AV} (h:∀ x,wI k [enc x]=true) (l:List α):wI k (mapE enc l)=true:=by
 rw [zk,wI,List.all_map,List.all_eq_true]
 intro x _
 have:=h x
 simpa [wI] using this
theorem fitPat (l:List Pat):wI 14 (mapE Pat.enc l)=true:=fitL (fun p=>by obtain ⟨o,es,t,v,s,n,co,ec,cv,cf,ck,xk,xn,xt,h⟩:=Pat.form p;rw [h];rfl) l
theorem uO (l:List Int):wI 1 (mapE int l)=true:=fitL (fun _=>rfl) l
theorem zU (l:List Int):AV.closedL (mapE int l)=true:=xZ (fun _=>rfl) l
theorem zx (l:List Int):(AV.isl 1 (mapE int l)).closed=true:=by simp [AV.closed,zU]
theorem tq {a b:ByteArray} (h:a.toList=b.toList):a=b:=by
 rw [ByteArray.toList_eq,ByteArray.toList_eq] at h
 exact ByteArray.ext (Array.toList_inj.1 h)
noncomputable def eqB {α:Type} (a b:α):Bool:=@decide (a=b) (Classical.propDecidable _)
theorem uW {α:Type} {a b:α} (h:a=b):eqB a b=true:=by unfold eqB;exact @decide_eq_true _ (Classical.propDecidable _) h
theorem uo {α:Type} {a b:α} (h:a≠b):eqB a b=false:=by unfold eqB;exact @decide_eq_false _ (Classical.propDecidable _) h
theorem eqB_iff {α:Type} {a b:α}:eqB a b=true↔a=b:=by
 refine ⟨fun h=>Classical.byContradiction fun hn=>?_,uW⟩
 rw [uo hn] at h
 exact Bool.noConfusion h
def shapesL : List Value:=[
 .int .i64 0,.int .i64 0,.bool true,.bool true,.bool false,.bool false,
 .int .i64 2,.int .i64 64,.bool false,.bool false,.bool false,.bool false,
 .int .i64 2,.int .i64 64,.bool false,.bool false,.bool false,.bool false,
 .int .i64 2,.int .i64 64,.bool false,.bool false,.bool false,.bool false,
 .int .i64 1,.int .i64 1,.bool false,.bool false,.bool false,.bool false,
 .int .i64 1,.int .i64 1,.bool true,.bool true,.bool true,.bool false,
 .int .i64 1,.int .i64 1,.bool false,.bool false,.bool true,.bool true,
 .int .i64 1,.int .i64 1,.bool false,.bool true,.bool false,.bool false,
 .int .i64 2,.int .i64 2,.bool false,.bool false,.bool false,.bool false,
 .int .i64 1,.int .i64 1,.bool true,.bool true,.bool true,.bool false,
 .int .i64 1,.int .i64 1,.bool false,.bool false,.bool true,.bool true]
structure TabBox where
 g:List AV
 h:g=shapesL.map .val
theorem wj : Nonempty TabBox:=⟨⟨_,rfl⟩⟩
def scTabL : List Value:=[.bool true,.bool true,.bool true,.bool false,.bool false,.bool false,.bool true,.bool false,.bool false,.bool false,.bool true,.bool true,.bool true,.bool false,.bool true,.bool true]
structure ScBox where
 g:List AV
 h:g=scTabL.map .val
theorem wT : Nonempty ScBox:=⟨⟨_,rfl⟩⟩
noncomputable def EE : Env:=⟨Tryz.prog,fun n=>cond (Nat.beq n 1) (.iptr (Classical.choice wj).g) (cond (Nat.beq n 0) (.iptr (Classical.choice wT).g) .undef)⟩
abbrev u8 (n:Int):AV:=.val (.int .u8 n)
abbrev Bs := List UInt8
structure BaBox where
 f:Bs→ByteArray
 h:∀ l,f l=⟨l.toArray⟩
theorem baBox_ne : Nonempty BaBox:=⟨⟨fun l=>⟨l.toArray⟩,fun _=>rfl⟩⟩
noncomputable def ba (l:Bs):ByteArray:=(Classical.choice baBox_ne).f l
theorem vB (l:Bs):ba l=⟨l.toArray⟩:=(Classical.choice baBox_ne).h l
theorem ur (l:Bs):(ba l).data.toList=l:=by rw [vB]
theorem wV (l:Bs):(ba l).toList=l:=by rw [ByteArray.toList_eq,ur]
theorem wU (l:Bs):(ba l).size=l.length:=by rw [vB];simp [ByteArray.size]
theorem tL (s:ByteArray):s=ba s.data.toList:=by rw [vB]
theorem ba_inj {a b:Bs} (h:ba a=ba b):a=b:=by rw [← ur a,← ur b,h]
theorem ba_app (a b:Bs):ba a++ba b=ba (a++b):=by
 rw [tL (ba a++ba b)];congr 1
 simp [ur]
def ch (b:UInt8):Int:=b.toNat
theorem tu (l d r:Bs) (c:UInt8) (h:l=d++c :: r):((ba l).data.getD d.length 0).toNat=c.toNat:=by
 have:(ba l).data=l.toArray:=by rw [vB]
 rw [this,h];simp
structure Fld where
 nm:Bs
 kd:Int
structure Sch where
 nm:Bs
 fs:List Fld
structure EncBoxS where
 fld:Fld→AV
 sch:Sch→AV
 hf:∀ f,fld f=.agg [str (ba f.nm),int f.kd]
 hs:∀ s,sch s=.agg [str (ba s.nm),.isl 2 (mapE fld s.fs)]
theorem encBoxS_ne : Nonempty EncBoxS:=⟨⟨fun f=>.agg [str (ba f.nm),int f.kd],fun s=>.agg [str (ba s.nm),.isl 2 (mapE (fun f=>.agg [str (ba f.nm),int f.kd]) s.fs)],fun _=>rfl,fun _=>rfl⟩⟩
noncomputable def Fld.enc (f:Fld):AV:=(Classical.choice encBoxS_ne).fld f
noncomputable def Sch.enc (s:Sch):AV:=(Classical.choice encBoxS_ne).sch s
theorem Fld.enc_eq (f:Fld):f.enc=.agg [str (ba f.nm),int f.kd]:=(Classical.choice encBoxS_ne).hf f
theorem Sch.enc_eq (s:Sch):s.enc=.agg [str (ba s.nm),.isl 2 (mapE Fld.enc s.fs)]:=(Classical.choice encBoxS_ne).hs s
theorem Fld.closed (f:Fld):f.enc.closed=true:=by rw [Fld.enc_eq];rfl
theorem Fld.closedL (l:List Fld):AV.closedL (mapE Fld.enc l)=true:=xZ Fld.closed l
theorem Fld.closedI (l:List Fld):(AV.isl 2 (mapE Fld.enc l)).closed=true:=by simp [AV.closed,Fld.closedL]
theorem Sch.closed (s:Sch):s.enc.closed=true:=by rw [Sch.enc_eq];simp [AV.closed,AV.closedL,Fld.closedL]
theorem Sch.closedL (l:List Sch):AV.closedL (mapE Sch.enc l)=true:=xZ Sch.closed l
theorem Sch.closedI (l:List Sch):(AV.isl 2 (mapE Sch.enc l)).closed=true:=by simp [AV.closed,Sch.closedL]
def yU (n:Int):Bool:=decide (n=95∨(97≤n∧n≤122)∨(65≤n∧n≤90))
def yC (n:Int):Bool:=decide (48≤n∧n≤57)
def xh (b:UInt8):Bool:=yU (ch b) || yC (ch b)
def nameB (l:Bs):Bool:=decide (l.length≤24) && (match l with
 | []=>false
 | c :: _=>!yC (ch c) && l.all xh)
def v8 : Bs:=[116,105,109,101]
def u7 (l:Bs):Bool:=nameB l && decide (l≠v8)
theorem P_letter (n:Int):PCall EE 171 [u8 n] (bool (yU n)):=by
 obtain ⟨b,hb⟩:∃ b,b=yU n:=⟨_,rfl⟩
 rw [← hb]
 simp only [yU] at hb
 refine zr ?_;unhygienic intros
 refine fB T171 [.t 2] ?_
 refine goA 0 ?_
 refine nsB hX (by conv=>lhs;cbv) ?_
 refine goA 0 ?_
 refine nsB hX (by conv=>lhs;cbv) ?_
 refine Aq ?_
 refine zR rfl rfl (.val ?_)
 (clear hX;subst hb;exact congrArg Value.bool (by simp only [ee] at *;grind))
theorem P_refletter (n:Int):PCall EE 157 [u8 n] (bool (yU n)):=by
 obtain ⟨b,hb⟩:∃ b,b=yU n:=⟨_,rfl⟩
 rw [← hb]
 simp only [yU] at hb
 refine zr ?_;unhygienic intros
 refine fB T157 [.t 2] ?_
 refine goA 0 ?_
 refine nsB hX (by conv=>lhs;cbv) ?_
 refine Aq ?_
 refine zR rfl rfl (.val ?_)
 (clear hX;subst hb;exact congrArg Value.bool (by simp only [ee] at *;grind))
theorem P_digit (n:Int):PCall EE 170 [u8 n] (bool (yC n)):=by
 obtain ⟨b,hb⟩:∃ b,b=yC n:=⟨_,rfl⟩
 rw [← hb]
 simp only [yC] at hb
 refine zr ?_;unhygienic intros
 refine fB T170 [.t 2] ?_
 refine Aq ?_
 refine zR rfl rfl (.val ?_)
 (clear hX;subst hb;exact congrArg Value.bool (by simp only [ee] at *;grind))
theorem all_cons {p:UInt8→Bool} {l d r:Bs} {c:UInt8} (h:l=d++c :: r) (hc:p c=false):l.all p=false:=by
 rw [h];simp [hc]
theorem P_name (l:Bs) (hl:l.length<1152921504606846976):PCall EE 149 [str (ba l)] (bool (nameB l)):=by
 have hsz:=wU l
 have hget:=fun d c r h=>tu l d r c h
 generalize ba l=s at *
 refine zr ?_;unhygienic intros
 have hn:sLen s=(l.length:Int):=by simp only [ee];rw [hsz]
 have hat:∀ d c r,l=d++c :: r→∀ i:Int,i=d.length→sAt s i=ch c:=fun d c r h i hi=>by
  subst hi;simp only [ee,ch];rw [Int.toNat_natCast,hget d c r h]
 refine fB T149 [.t 2] ?_
 cases l with
 | nil =>
  have k0:iEq (sLen s) 0=true:=by rw [hn];simp only [ee];rfl
  have fz:=k0
  refine Cq ?_
  refine zj rfl rfl (fun c1=>?_) (fun c1=>?_)
  ·
   simp [ee] at c1
   refine Aq ?_
   exact fV
  simp [ee] at c1
 | cons c0 r0 =>
 have k0:iEq (sLen s) 0=false:=by rw [hn];simp only [ee];simp;omega
 by_cases h24:(c0 :: r0).length≤24
 rotate_left
 · have k1:iLt 24 (sLen s)=true:=by rw [hn];simp only [ee];simp at h24 ⊢;omega
   have hnb:nameB (c0 :: r0)=false:=by unfold nameB;rw [decide_eq_false h24,Bool.false_and]
   rw [hnb]
   have fz:=And.intro k0 k1
   refine Cq ?_
   refine zj rfl rfl (fun c1=>?_) (fun c1=>?_)
   ·
    simp [ee] at c1
    refine Aq ?_
    exact fV
   simp [ee] at c1
 have k1:iLt 24 (sLen s)=false:=by rw [hn];simp only [ee];simp at h24 ⊢;omega
 have qd:PCall EE 170 [u8 (sAt s 0)] (bool (yC (ch c0))):=by rw [← hat [] c0 r0 rfl 0 rfl];exact P_digit _
 have hp:0<sLen s:=by rw [hn];simp
 have hnb:nameB (c0 :: r0)=(!yC (ch c0) && (c0 :: r0).all xh):=by simp only [nameB,decide_eq_true h24,Bool.true_and]
 rw [hnb]
 generalize yC (ch c0)=b0 at *
 cases b0 with
 | true =>
  have fz:=And.intro k0 k1
  refine Cq ?_
  refine zj rfl rfl (fun c1=>?_) (fun c1=>?_)
  ·
   simp [ee] at c1
  simp [ee] at c1
  refine Aq ?_
  refine oPG qd ?_
  refine Aq ?_
  exact fV
 | false =>
 clear hnb
 generalize hL:c0 :: r0=L at *
 have fz:=And.intro k0 k1
 refine Cq ?_
 refine zj rfl rfl (fun c1=>?_) (fun c1=>?_)
 ·
  simp [ee] at c1
 simp [ee] at c1
 refine Aq ?_
 refine oPG qd ?_
 refine Aq ?_
 refine zf (ι:=Bs × Bs × Int) (fun p=>([(19,int p.2.2),(18,int (sLen s)),(0,str s)],[])) (fun p=>L=p.1++p.2.1∧p.2.2=p.1.length∧p.1.all xh=true) (fun p=>p.2.1.length) ([],L,0) ⟨rfl,rfl,rfl⟩ ?_ ?_
 · exact (eS [] [])
 rintro ⟨d,r,i⟩ ⟨g1,gi,ga⟩
 dsimp only at g1 gi ga ⊢
 cases r with
 | nil =>
  have hc:iLt i (sLen s)=false:=by rw [hn,g1];simp only [ee];simp;omega
  have hall:L.all xh=true:=by rw [g1,List.append_nil];exact ga
  rw [hall]
  have fz:=hc
  refine Cq ?_
  refine Aq ?_
  refine zo ?_
  refine Aq ?_
  exact fV
 | cons c r =>
  have L1:=zu g1
  try simp only [List.length] at L1
  have hc:iLt i (sLen s)=true:=by rw [hn];simp only [ee];simp;omega
  have hb:i<sLen s:=by rw [hn];omega
  have hi2:iAdd .i64 i 1=((d++[c]).length:Int):=by rw [List.length_append];exact zJ e_iAdd gi (by omega)
  have ql:PCall EE 171 [u8 (sAt s i)] (bool (yU (ch c))):=by rw [← hat d c r g1 i gi];exact P_letter _
  have qg:PCall EE 170 [u8 (sAt s i)] (bool (yC (ch c))):=by rw [← hat d c r g1 i gi];exact P_digit _
  have hok:xh c=(yU (ch c) || yC (ch c)):=rfl
  have n0:bNot false=true:=by simp only [ee];rfl
  have n1:bNot true=false:=by simp only [ee];rfl
  generalize yU (ch c)=b1 at *
  generalize yC (ch c)=b2 at *
  cases b1 with
  | true =>
   have h2:(d++[c]).all xh=true:=by simp [ga,hok]
   have fz:=And.intro hc n1
   refine Cq ?_
   refine Aq ?_
   refine oPA ql ?_
   refine Cq ?_
   refine Aq ?_
   refine zi rfl rfl ?_
   refine Aq ?_
   refine zw (d++[c],r,iAdd .i64 i 1) ⟨by simp [g1],hi2,h2⟩ (by simp) (eS [] [])
  | false =>
   cases b2 with
   | true =>
    have h2:(d++[c]).all xh=true:=by simp [ga,hok]
    have fz:=And.intro hc (And.intro n0 n1)
    refine Cq ?_
    refine Aq ?_
    refine oPA ql ?_
    refine Cq ?_
    refine Aq ?_
    refine oPG qg ?_
    refine Cq ?_
    refine oC (fun c1=>?_) fun c1=>?_
    ·
     simp [ee] at c1
    simp [ee] at c1
    refine Aq ?_
    refine zw (d++[c],r,iAdd .i64 i 1) ⟨by simp [g1],hi2,h2⟩ (by simp) (eS [] [])
   | false =>
    rw [all_cons g1 (by rw [hok];rfl)]
    have fz:=And.intro hc n0
    refine Cq ?_
    refine Aq ?_
    refine oPA ql ?_
    refine Cq ?_
    refine Aq ?_
    refine oPG qg ?_
    refine Cq ?_
    refine oC (fun c1=>?_) fun c1=>?_
    ·
     simp [ee] at c1
     refine Aq ?_
     refine zl ?_
     refine Aq ?_
     exact fV
    simp [ee] at c1
theorem ba_lit (l:Bs):(⟨l.toArray⟩:ByteArray)=ba l:=(vB l).symm
theorem ba_eqB (a b:Bs):((ba a).toList == (ba b).toList)=decide (a=b):=by
 rw [wV,wV,Bool.eq_iff_iff];simp
theorem P_fieldName (l:Bs) (hl:l.length<1152921504606846976):PCall EE 150 [str (ba l)] (bool (u7 l)):=by
 have q1:=P_name l hl
 have e1:((ba l).toList == (ByteArray.mk #[116,105,109,101]).toList)=decide (l=v8):=by
  rw [show (ByteArray.mk #[116,105,109,101])=ba v8 from ba_lit v8,ba_eqB]
 have hf:u7 l=(nameB l && decide (l≠v8)):=rfl
 rw [hf]
 generalize nameB l=b0 at *
 generalize ba l=s at *
 refine zr ?_;unhygienic intros
 have h1:sNe s ⟨#[116,105,109,101]⟩=decide (l≠v8):=by simp only [ee];rw [e1];simp
 clear e1 hf
 generalize decide (l≠v8)=b1 at *
 refine fB T150 [.t 2] ?_
 have hand:∀ a b,bAnd a b=(a && b):=fun a b=>by simp only [ee]
 refine Aq ?_
 refine oPA q1 ?_
 refine Aq ?_
 exact fBo (h:=by rw [hand];exact congrArg (fun x=>b0 && x) h1)
theorem P_refName (l:Bs) (hl:l.length<1152921504606846976):PCall EE 124 [str (ba l)] (bool (nameB l)):=by
 have hsz:=wU l
 have hget:=fun d c r h=>tu l d r c h
 generalize ba l=s at *
 refine zr ?_;unhygienic intros
 have hn:sLen s=(l.length:Int):=by simp only [ee];rw [hsz]
 have hat:∀ d c r,l=d++c :: r→∀ i:Int,i=d.length→sAt s i=ch c:=fun d c r h i hi=>by
  subst hi;simp only [ee,ch];rw [Int.toNat_natCast,hget d c r h]
 have n0:bNot false=true:=by simp only [ee];rfl
 have n1:bNot true=false:=by simp only [ee];rfl
 refine fB T124 [.t 2] ?_
 cases l with
 | nil =>
  have k0:iEq (sLen s) 0=true:=by rw [hn];simp only [ee];rfl
  have fz:=k0
  refine Cq ?_
  refine zj rfl rfl (fun c1=>?_) (fun c1=>?_)
  ·
   simp [ee] at c1
   refine Aq ?_
   refine zi rfl rfl ?_
   refine Aq ?_
   exact fV
  simp [ee] at c1
 | cons c0 r0 =>
 have k0:iEq (sLen s) 0=false:=by rw [hn];simp only [ee];simp;omega
 by_cases h24:(c0 :: r0).length≤24
 rotate_left
 · have k1:iLt 24 (sLen s)=true:=by rw [hn];simp only [ee];simp at h24 ⊢;omega
   have hnb:nameB (c0 :: r0)=false:=by unfold nameB;rw [decide_eq_false h24,Bool.false_and]
   rw [hnb]
   have fz:=And.intro k0 k1
   refine Cq ?_
   refine zj rfl rfl (fun c1=>?_) (fun c1=>?_)
   ·
    simp [ee] at c1
    refine Aq ?_
    refine zi rfl rfl ?_
    refine Aq ?_
    exact fV
   simp [ee] at c1
 have k1:iLt 24 (sLen s)=false:=by rw [hn];simp only [ee];simp at h24 ⊢;omega
 have hL0:=hat [] c0 r0 rfl 0 rfl
 have qd:PCall EE 157 [u8 (sAt s 0)] (bool (yU (ch c0))):=by rw [← hL0];exact P_refletter _
 have hp:0<sLen s:=by rw [hn];simp
 have hnb:nameB (c0 :: r0)=(yU (ch c0) && (c0 :: r0).all xh):=by
  simp only [nameB,decide_eq_true h24,Bool.true_and,List.all_cons,xh]
  have hx:¬ (yU (ch c0)=true∧yC (ch c0)=true):=by simp only [yU,yC];simp;omega
  generalize yU (ch c0)=x at *
  generalize yC (ch c0)=y at *
  cases x<;>cases y<;>simp_all
 rw [hnb]
 generalize yU (ch c0)=b0 at *
 cases b0 with
 | false =>
  have fz:=And.intro k0 (And.intro k1 n0)
  refine Cq ?_
  refine zj rfl rfl (fun c1=>?_) (fun c1=>?_)
  ·
   simp [ee] at c1
  simp [ee] at c1
  refine Aq ?_
  refine oPG qd ?_
  refine Cq ?_
  refine oC (fun c2=>?_) fun c2=>?_
  ·
   simp [ee] at c2
   refine Aq ?_
   exact fV
  simp [ee] at c2
 | true =>
 clear hnb hL0
 generalize hL:c0 :: r0=L at *
 have fz:=And.intro k0 (And.intro k1 n1)
 refine Cq ?_
 refine zj rfl rfl (fun c1=>?_) (fun c1=>?_)
 ·
  simp [ee] at c1
 simp [ee] at c1
 refine Aq ?_
 refine oPG qd ?_
 refine Cq ?_
 refine oC (fun c2=>?_) fun c2=>?_
 ·
  simp [ee] at c2
 simp [ee] at c2
 refine Aq ?_
 refine zf (ι:=Bs × Bs × Int) (fun p=>([(3,int p.2.2),(0,str s)],[])) (fun p=>L=p.1++p.2.1∧p.2.2=p.1.length∧p.1.all xh=true) (fun p=>p.2.1.length) ([],L,0) ⟨rfl,rfl,rfl⟩ ?_ ?_
 · exact (eS [] [])
 rintro ⟨d,r,i⟩ ⟨g1,gi,ga⟩
 dsimp only at g1 gi ga ⊢
 cases r with
 | nil =>
  have hc:iLt i (sLen s)=false:=by rw [hn,g1];simp only [ee];simp;omega
  have hall:L.all xh=true:=by rw [g1,List.append_nil];exact ga
  rw [hall]
  have fz:=hc
  refine Cq ?_
  refine Aq ?_
  refine zo ?_
  refine Aq ?_
  exact fV
 | cons c r =>
  have L1:=zu g1
  try simp only [List.length] at L1
  have hc:iLt i (sLen s)=true:=by rw [hn];simp only [ee];simp;omega
  have hb:i<sLen s:=by rw [hn];omega
  have hi2:iAdd .i64 i 1=((d++[c]).length:Int):=by rw [List.length_append];exact zJ e_iAdd gi (by omega)
  have hx:=hat d c r g1 i gi
  have ql:PCall EE 157 [u8 (sAt s i)] (bool (yU (ch c))):=by rw [← hx];exact P_refletter _
  have hok:xh c=(yU (ch c) || yC (ch c)):=rfl
  have hdg:yC (ch c)=decide (48≤sAt s i∧sAt s i≤57):=by rw [hx];rfl
  clear hx
  generalize yU (ch c)=b1 at *
  generalize yC (ch c)=b2 at *
  generalize hv:sAt s i=v at *
  cases b1 with
  | true =>
   have h2:(d++[c]).all xh=true:=by simp [ga,hok]
   subst hv
   have fz:=And.intro hc n1
   refine Cq ?_
   refine Aq ?_
   refine oPA ql ?_
   refine Cq ?_
   refine Aq ?_
   refine zi rfl rfl ?_
   refine Aq ?_
   refine zw (d++[c],r,iAdd .i64 i 1) ⟨by simp [g1],hi2,h2⟩ (by simp) (eS [] [])
  | false =>
   by_cases h48:v<48
   · have k4:iLt v 48=true:=by simp only [ee];simpa using h48
     have hf:xh c=false:=by rw [hok,hdg];simp;omega
     rw [all_cons g1 hf]
     subst hv
     have fz:=And.intro hc (And.intro n0 k4)
     refine Cq ?_
     refine Aq ?_
     refine oPA ql ?_
     refine Cq ?_
     refine Cr ?_
     refine Cr ?_
     refine Cr ?_
     refine Cr ?_
     refine Cr ?_
     refine Cr ?_
     refine Cr ?_
     refine Cr ?_
     refine Cr ?_
     refine oC (fun c1=>?_) fun c1=>?_
     ·
      simp [ee] at c1
      refine Aq ?_
      refine zl ?_
      refine Aq ?_
      exact fV
     simp [ee] at c1
   have k4:iLt v 48=false:=by simp only [ee];simpa using h48
   by_cases h57:57<v
   · have k5:iLt 57 v=true:=by simp only [ee];simpa using h57
     have hf:xh c=false:=by rw [hok,hdg];simp;omega
     rw [all_cons g1 hf]
     subst hv
     have fz:=And.intro hc (And.intro n0 (And.intro k4 k5))
     refine Cq ?_
     refine Aq ?_
     refine oPA ql ?_
     refine Cq ?_
     refine Cr ?_
     refine Cr ?_
     refine Cr ?_
     refine Cr ?_
     refine Cr ?_
     refine Cr ?_
     refine Cr ?_
     refine Cr ?_
     refine Cr ?_
     refine oC (fun c1=>?_) fun c1=>?_
     ·
      simp [ee] at c1
      refine Aq ?_
      refine zl ?_
      refine Aq ?_
      exact fV
     simp [ee] at c1
   have k5:iLt 57 v=false:=by simp only [ee];simpa using h57
   have hf:xh c=true:=by rw [hok,hdg];simp;omega
   have h2:(d++[c]).all xh=true:=by simp [ga,hf]
   subst hv
   have fz:=And.intro hc (And.intro n0 (And.intro k4 k5))
   refine Cq ?_
   refine Aq ?_
   refine oPA ql ?_
   refine Cq ?_
   refine Cr ?_
   refine Cr ?_
   refine Cr ?_
   refine Cr ?_
   refine Cr ?_
   refine Cr ?_
   refine Cr ?_
   refine Cr ?_
   refine Cr ?_
   refine oC (fun c1=>?_) fun c1=>?_
   ·
    simp [ee] at c1
   simp [ee] at c1
   refine Aq ?_
   refine zw (d++[c],r,iAdd .i64 i 1) ⟨by simp [g1],hi2,h2⟩ (by simp) (eS [] [])
noncomputable def ents (l:List Bs):List (AV × AV):=l.map fun n=>(str (ba n),bool true)
theorem ut (l:List Bs) (s:ByteArray):mOkL true (ents l) (str s)=true:=by
 unfold mOkL ents
 rw [List.all_eq_true]
 intro p hp
 obtain ⟨n,_,rfl⟩:=List.mem_map.1 hp
 rfl
theorem babeq (a b:ByteArray):(a == b)=decide (a=b):=by
 cases a;cases b
 rename_i x y
 show (x == y)=_
 by_cases h:x=y
 · subst h;simp
 rw [decide_eq_false (fun e=>h (ByteArray.mk.inj e))];simpa using h
theorem mIs_ba (n s:Bs) (v:AV):mIs true (str (ba s)) (str (ba n),v)=decide (n=s):=by
 show ((if true=true then some (ba s == ba n) else none) == some true)=_
 rw [if_pos rfl,babeq]
 by_cases h:n=s
 · subst h;simp
 rw [decide_eq_false (fun e=>h (ba_inj e).symm),decide_eq_false h];rfl
theorem uY : ∀ l:List Bs,y5 (ents l)=true
 | []=>rfl
 | n :: l=>by
  have ih:=uY l
  rw [ents] at ih
  rw [ents,List.map_cons,y5,List.all_cons]
  exact ih
theorem uh (s:Bs):∀ l:List Bs,mGetL true (ents l) (str (ba s)) (bool false)=bool (decide (s∈l))
 | []=>rfl
 | n :: l=>by
  have ih:=uh s l
  rw [ents] at ih
  rw [ents,List.map_cons,mGetL,mIs_ba]
  by_cases h:n=s
  · subst h;simp
  rw [decide_eq_false h,if_neg (by decide),ih]
  simp [Ne.symm h]
theorem ui (s:Bs):∀ l:List Bs,s∉l→mPutL true (ents l) (str (ba s)) (bool true)=ents (l++[s])
 | [],_=>rfl
 | n :: l,h=>by
  simp only [List.mem_cons,not_or] at h
  have ih:=ui s l h.2
  rw [ents,ents] at ih
  rw [ents,ents,List.map_cons,mPutL,mIs_ba,decide_eq_false (Ne.symm h.1),if_neg (by decide),ih]
  simp
def uE : List Bs→List Fld→Int
 | _,[]=>0
 | seen,f :: r=>if u7 f.nm=false then 8 else if f.nm∈seen then 7 else if f.kd<0∨3≤f.kd then 1 else uE (seen++[f.nm]) r
def Sch.chk (q:Sch):Int:=if nameB q.nm=false then 8 else if 8<q.fs.length then 5 else uE [] q.fs
def Sch.Short (q:Sch):Prop:=q.nm.length<1152921504606846976∧q.fs.length<1152921504606846976∧∀ f∈q.fs,f.nm.length<1152921504606846976
theorem P_Check (q:Sch) (hq:q.Short):PCall EE 113 [q.enc] (int q.chk):=by
 obtain ⟨hqn,hl,hf⟩:=hq
 have kcl:=Fld.closedI q.fs
 rw [Sch.enc_eq,Sch.chk]
 generalize q.fs=l at *
 have pn:=P_name q.nm hqn
 clear hqn
 generalize hn:nameB q.nm=bn at *
 generalize ba q.nm=qn at *
 refine zr ?_;unhygienic intros
 generalize hes:mapE Fld.enc l=es at *
 have hel:es.length=l.length:=by rw [← hes,zq]
 have kcA:AV.closedL [str qn,.isl 2 es]=true:=by simp [AV.closedL,xb,kcl]
 cases bn with
 | false =>
  rw [if_pos rfl]
  refine fB T113 [.t 2] ?_
  refine Aq ?_
  refine oPA pn ?_
  have fz:=hel
  refine Cq ?_
  refine oC (fun c1=>?_) fun c1=>?_
  ·
   simp [ee] at c1
   refine Aq ?_
   exact fV
  simp [ee] at c1
 | true =>
 rw [if_neg (by decide)]
 by_cases h8:8<l.length
 · have k8:iLt 8 (lenA es)=true:=by simp only [ee];simp;omega
   rw [if_pos h8]
   refine fB T113 [.t 2] ?_
   refine Aq ?_
   refine oPA pn ?_
   have fz:=k8
   refine Cq ?_
   refine oC (fun c1=>?_) fun c1=>?_
   ·
    simp [ee] at c1
   simp [ee] at c1
   refine Cq ?_
   refine Aq ?_
   exact fV
 have k8:iLt 8 (lenA es)=false:=by simp only [ee];simp;omega
 rw [if_neg h8]
 refine fB T113 [.t 2] ?_
 refine Aq ?_
 refine oPA pn ?_
 have fz:=k8
 refine Cq ?_
 refine oC (fun c1=>?_) fun c1=>?_
 ·
  simp [ee] at c1
 simp [ee] at c1
 clear c1
 refine Cq ?_
 refine Aq ?_
 refine zf (ι:=List Fld × List Fld × Int × List (AV × AV)) (fun p=>([(18,int p.2.2.1),(17,int (lenA es)),(16,.isl 2 es),(3,.amap 0)],[.amap p.2.2.2])) (fun p=>l=p.1++p.2.1∧p.2.2.1=p.1.length∧p.2.2.2=ents (p.1.map Fld.nm)∧uE [] l=uE (p.1.map Fld.nm) p.2.1) (fun p=>p.2.1.length) ([],l,0,[]) ⟨rfl,rfl,rfl,rfl⟩ ?_ ?_
 · have kcM:y5 []=true:=rfl
   exact (eS [.gone,.to 0] [some 1])
 rintro ⟨d,r,i,m⟩ ⟨g1,gi,gm,gc⟩
 dsimp only at g1 gi gm gc ⊢
 cases r with
 | nil =>
  have L1:=zu g1
  try simp only [List.length] at L1
  have hc:iLt i (lenA es)=false:=yW e_iLt e_lenA (by omega)
  rw [gc,uE]
  have fz:=hc
  refine Cq ?_
  refine Aq ?_
  refine zo ?_
  refine Aq ?_
  exact fV
 | cons f r =>
  have L1:=zu g1
  try simp only [List.length] at L1
  have hc:iLt i (lenA es)=true:=yY e_iLt e_lenA (by omega)
  have hat:=zP e_atA hes g1 gi
  rw [Fld.enc_eq] at hat
  have hi2:iAdd .i64 i 1=((d++[f]).length:Int):=by rw [List.length_append];exact zJ e_iAdd gi (by omega)
  have pf:=P_fieldName f.nm (hf f (by rw [g1];simp))
  have gc2:uE (d.map Fld.nm++[f.nm]) r=uE ((d++[f]).map Fld.nm) r:=by simp
  rw [uE,gc2] at gc
  rw [gc]
  clear hf
  have kokL:mOkL true m (str (ba f.nm))=true:=by rw [gm];exact ut _ _
  have kok:mOk true m (str (ba f.nm))=true:=by simp only [ee];rw [gm];exact ut _ _
  have kget:mGet true m (str (ba f.nm)) (bool false)=bool (decide (f.nm∈d.map Fld.nm)):=by simp only [ee];rw [gm];exact uh _ _
  have kput:f.nm∉d.map Fld.nm→mPut true m (str (ba f.nm)) (bool true)=ents ((d++[f]).map Fld.nm):=fun h=>by simp only [ee];rw [gm,ui _ _ h];simp
  have kk1:f.kd<0→iLt f.kd 0=true:=fun h=>by simp only [ee];simpa using h
  have kk2:¬ f.kd<0→iLt f.kd 0=false:=fun h=>by simp only [ee];simpa using h
  have kk3:3≤f.kd→iLe 3 f.kd=true:=fun h=>by simp only [ee];simpa using h
  have kk4:¬ 3≤f.kd→iLe 3 f.kd=false:=fun h=>by simp only [ee];simpa using h
  clear gc2
  generalize u7 f.nm=bf at *
  generalize hin:decide (f.nm∈d.map Fld.nm)=bi at *
  generalize ba f.nm=fs at *
  generalize f.kd=fk at *
  cases bf with
  | false =>
   rw [if_pos rfl]
   have fz:=And.intro hc hat
   refine Cq ?_
   refine Cr ?_
   refine oPA pf ?_
   refine Cq ?_
   refine oC (fun c1=>?_) fun c1=>?_
   ·
    simp [ee] at c1
    refine Aq ?_
    refine zl ?_
    refine Aq ?_
    exact fV
   simp [ee] at c1
  | true =>
  rw [if_neg (by decide)]
  cases bi with
  | true =>
   rw [if_pos (of_decide_eq_true hin)]
   have fz:=And.intro hc (And.intro hat (And.intro kget kok))
   refine Cq ?_
   refine Cr ?_
   refine oPA pf ?_
   refine Cq ?_
   refine oC (fun c1=>?_) fun c1=>?_
   ·
    simp [ee] at c1
   simp [ee] at c1
   refine Cq ?_
   refine Aq ?_
   refine zl ?_
   refine Aq ?_
   exact fV
  | false =>
  rw [if_neg (of_decide_eq_false hin)]
  have kp:=kput (of_decide_eq_false hin)
  clear kput
  by_cases n0:fk<0
  · have kk:=kk1 n0
    rw [if_pos (Or.inl n0)]
    have fz:=And.intro hc (And.intro hat (And.intro kget (And.intro kok kk)))
    refine Cq ?_
    refine Cr ?_
    refine oPA pf ?_
    refine Cq ?_
    refine oC (fun c1=>?_) fun c1=>?_
    ·
     simp [ee] at c1
    simp [ee] at c1
    refine Cq ?_
    refine Cq ?_
    refine Cr ?_
    refine oC (fun c2=>?_) fun c2=>?_
    ·
     simp [ee] at c2
     refine Aq ?_
     refine zl ?_
     refine Aq ?_
     exact fV
    simp [ee] at c2
  have kk:=kk2 n0
  by_cases n3:3≤fk
  · have kkb:=kk3 n3
    rw [if_pos (Or.inr n3)]
    have fz:=And.intro hc (And.intro hat (And.intro kget (And.intro kok (And.intro kk kkb))))
    refine Cq ?_
    refine Cr ?_
    refine oPA pf ?_
    refine Cq ?_
    refine oC (fun c1=>?_) fun c1=>?_
    ·
     simp [ee] at c1
    simp [ee] at c1
    refine Cq ?_
    refine Cq ?_
    refine Cr ?_
    refine oC (fun c2=>?_) fun c2=>?_
    ·
     simp [ee] at c2
     refine Aq ?_
     refine zl ?_
     refine Aq ?_
     exact fV
    simp [ee] at c2
  have kkb:=kk4 n3
  rw [if_neg (by omega)]
  rw [if_neg (by decide),if_neg (of_decide_eq_false hin),if_neg (by omega)] at gc
  have kcM:y5 (mPut true m (str fs) (bool true))=true:=by rw [kp];exact uY _
  have fz:=And.intro hc (And.intro hat (And.intro kget (And.intro kok (And.intro kk kkb))))
  refine Cq ?_
  refine Cr ?_
  refine oPA pf ?_
  refine Cq ?_
  refine oC (fun c1=>?_) fun c1=>?_
  ·
   simp [ee] at c1
  simp [ee] at c1
  refine Cq ?_
  refine Cq ?_
  refine Cr ?_
  refine oC (fun c2=>?_) fun c2=>?_
  ·
   simp [ee] at c2
  simp [ee] at c2
  refine go rfl hX 60 (by conv=>lhs;cbv) ?_ ?_
  · simp only [ee];simp only [kokL];trivial
  refine zw (d++[f],r,iAdd .i64 i 1,mPut true m (str fs) (bool true)) ⟨by simp [g1],hi2,kp,gc ▸ rfl⟩ (by simp) (eS [.to 0,.gone] [some 0])
def uL : List Bs→List Sch→Int
 | _,[]=>0
 | seen,q :: r=>if q.chk≠0 then q.chk else if q.nm∈seen then 7 else uL (seen++[q.nm]) r
def z7 (l:List Sch):Int:=if 16<l.length then 5 else uL [] l
def tj (f:Int→Bool):List Int→Int→Int
 | [],_=>-1
 | q :: r,i=>if f q=true then i else tj f r (i+1)
theorem idxW_any (f:Int→Bool):∀ (l:List Int) (i:Int),0≤i→(0≤tj f l i↔l.any f=true):=by
 intro l
 induction l with
 | nil=>intro i _;simp [tj]
 | cons q r ih =>
  intro i hi
  rw [tj,List.any_cons]
  cases hq:f q with
  | true=>simp [hi]
  | false=>simp [ih (i+1) (by omega)]
end Go.Am
end
