/- Contracts of the program's functions. -/
import Derived.Test.YtpdmaimjllhooaaGreatDoorRCt1
import Derived.Test.YtpdmaimjllhooaaGreatDoorProg
section
set_option maxHeartbeats 16000000
set_option maxRecDepth 100000
namespace Go.Am
open Go.Proofs
def Vl.sizeE (v:Vl):Int:=if v.kind=0∧(v.num < -1099511627776∨1099511627776<v.num) then 2 else if v.kind=1∧v.num≠0∧v.num≠1 then 2 else if 64<(v.text.size:Int) then 13 else 0
def Vl.chk (v:Vl):Int:=if v.kind=0∨v.kind=1 then (if v.text≠⟨#[]⟩ then 3 else v.sizeE) else if v.kind=2 then (if v.num≠0 then 3 else v.sizeE) else 1
def wi (k:Int) (v:Vl):Bool:=decide (v.kind=0∨k=4∨k=5)
theorem bs_nil {a:ByteArray}:a.toList=(ByteArray.mk #[]).toList↔a=⟨#[]⟩:=⟨fun h=>tq h,fun h=>by rw [h]⟩
theorem P_value_size (v:Vl):PCall EE 193 [v.enc] (int v.sizeE):=by
 obtain ⟨k,n,t⟩:=v
 unfold Vl.enc Vl.cs
 dsimp only
 obtain ⟨R,hR⟩:∃ R,R=Vl.sizeE ⟨k,n,t⟩:=⟨_,rfl⟩
 rw [← hR]
 unfold Vl.sizeE at hR
 dsimp only at hR
 refine zr ?_;unhygienic intros
 refine fB T193 [.t 2] ?_
 refine goA 0 ?_
 refine nsB hX (by conv=>lhs;cbv) ?_
 refine goA 0 ?_
 refine oC (fun c1=>?_) fun c1=>?_
 ·
  simp [ee] at c1
  refine Aq ?_
  exact fI (h:=by rw [hR];(repeat' split)<;>first | rfl | (exfalso;omega))
 simp [ee] at c1
 refine goA 0 ?_
 refine oC (fun c2=>?_) fun c2=>?_
 ·
  simp [ee] at c2
  refine Aq ?_
  exact fI (h:=by rw [hR];(repeat' split)<;>first | rfl | (exfalso;omega))
 simp [ee] at c2
 refine goA 0 ?_
 refine oC (fun c3=>?_) fun c3=>?_
 ·
  simp [ee] at c3
  refine Aq ?_
  exact fI (h:=by rw [hR];(repeat' split)<;>first | rfl | (exfalso;omega))
 simp [ee] at c3
 refine Aq ?_
 exact fI (h:=by rw [hR];(repeat' split)<;>first | rfl | (exfalso;omega))
theorem P_value_Check (v:Vl):PCall EE 176 [v.enc] (int v.chk):=by
 have hs:=P_value_size v
 obtain ⟨k,n,t⟩:=v
 unfold Vl.enc Vl.cs at *
 dsimp only at *
 obtain ⟨R,hR⟩:∃ R,R=Vl.chk ⟨k,n,t⟩:=⟨_,rfl⟩
 rw [← hR]
 unfold Vl.chk at hR
 generalize Vl.sizeE ⟨k,n,t⟩=sz at *
 dsimp only at hR
 refine zr ?_;unhygienic intros
 refine fB T176 [.t 2] ?_
 by_cases ht:t=⟨#[]⟩
 · have hw:sNe t ⟨#[]⟩=false:=by simp only [ee];rw [ht];simp
   have ht2:¬ (t≠⟨#[]⟩):=fun h=>h ht
   simp only [ht2,if_false] at hR
   have fz:=hw
   refine Cq ?_
   refine oC (fun c1=>?_) fun c1=>?_
   ·
    simp [ee] at c1
    refine Cq ?_
    refine oC (fun c2=>?_) fun c2=>?_
    ·
     simp [ee] at c2
     refine Cq ?_
     refine Aq ?_
     refine oPA hs ?_
     refine Aq ?_
     exact fI (h:=by rw [hR];(repeat' split)<;>first | rfl | (exfalso;omega))
    simp [ee] at c2
    refine Cq ?_
    refine oC (fun c3=>?_) fun c3=>?_
    ·
     simp [ee] at c3
     refine Cq ?_
     refine oC (fun c4=>?_) fun c4=>?_
     ·
      simp [ee] at c4
      refine Aq ?_
      exact fI (h:=by rw [hR];(repeat' split)<;>first | rfl | (exfalso;omega))
     simp [ee] at c4
     refine Aq ?_
     refine oPA hs ?_
     refine Aq ?_
     exact fI (h:=by rw [hR];(repeat' split)<;>first | rfl | (exfalso;omega))
    simp [ee] at c3
    refine Aq ?_
    exact fI (h:=by rw [hR];(repeat' split)<;>first | rfl | (exfalso;omega))
   simp [ee] at c1
   refine Cq ?_
   refine oC (fun c5=>?_) fun c5=>?_
   ·
    simp [ee] at c5
    refine Cq ?_
    refine Aq ?_
    refine oPA hs ?_
    refine Aq ?_
    exact fI (h:=by rw [hR];(repeat' split)<;>first | rfl | (exfalso;omega))
   simp [ee] at c5
   refine Cq ?_
   refine oC (fun c6=>?_) fun c6=>?_
   ·
    simp [ee] at c6
    refine Cq ?_
    refine oC (fun c7=>?_) fun c7=>?_
    ·
     simp [ee] at c7
     refine Aq ?_
     exact fI (h:=by rw [hR];(repeat' split)<;>first | rfl | (exfalso;omega))
    simp [ee] at c7
    refine Aq ?_
    refine oPA hs ?_
    refine Aq ?_
    exact fI (h:=by rw [hR];(repeat' split)<;>first | rfl | (exfalso;omega))
   simp [ee] at c6
   refine Aq ?_
   exact fI (h:=by rw [hR];(repeat' split)<;>first | rfl | (exfalso;omega))
 have hw:sNe t ⟨#[]⟩=true:=by simp only [ee];simpa using fun h=>ht (tq h)
 have ht2:t≠⟨#[]⟩:=ht
 simp only [ne_eq,ht,not_false_eq_true,if_true] at hR
 have fz:=hw
 refine Cq ?_
 refine oC (fun c1=>?_) fun c1=>?_
 ·
  simp [ee] at c1
  refine Cq ?_
  refine oC (fun c2=>?_) fun c2=>?_
  ·
   simp [ee] at c2
   refine Cq ?_
   refine Aq ?_
   exact fI (h:=by rw [hR];(repeat' split)<;>first | rfl | (exfalso;omega))
  simp [ee] at c2
  refine Cq ?_
  refine oC (fun c3=>?_) fun c3=>?_
  ·
   simp [ee] at c3
   refine Cq ?_
   refine oC (fun c4=>?_) fun c4=>?_
   ·
    simp [ee] at c4
    refine Aq ?_
    exact fI (h:=by rw [hR];(repeat' split)<;>first | rfl | (exfalso;omega))
   simp [ee] at c4
   refine Aq ?_
   refine oPA hs ?_
   refine Aq ?_
   exact fI (h:=by rw [hR];(repeat' split)<;>first | rfl | (exfalso;omega))
  simp [ee] at c3
  refine Aq ?_
  exact fI (h:=by rw [hR];(repeat' split)<;>first | rfl | (exfalso;omega))
 simp [ee] at c1
 refine Cq ?_
 refine oC (fun c5=>?_) fun c5=>?_
 ·
  simp [ee] at c5
  refine Cq ?_
  refine Aq ?_
  exact fI (h:=by rw [hR];(repeat' split)<;>first | rfl | (exfalso;omega))
 simp [ee] at c5
 refine Cq ?_
 refine oC (fun c6=>?_) fun c6=>?_
 ·
  simp [ee] at c6
  refine Cq ?_
  refine oC (fun c7=>?_) fun c7=>?_
  ·
   simp [ee] at c7
   refine Aq ?_
   exact fI (h:=by rw [hR];(repeat' split)<;>first | rfl | (exfalso;omega))
  simp [ee] at c7
  refine Aq ?_
  refine oPA hs ?_
  refine Aq ?_
  exact fI (h:=by rw [hR];(repeat' split)<;>first | rfl | (exfalso;omega))
 simp [ee] at c6
 refine Aq ?_
 exact fI (h:=by rw [hR];(repeat' split)<;>first | rfl | (exfalso;omega))
theorem P_expr_suits (k:Int) (v:Vl):PCall EE 161 [int k,v.enc] (bool (wi k v)):=by
 obtain ⟨vk,n,t⟩:=v
 unfold Vl.enc Vl.cs
 dsimp only
 obtain ⟨R,hR⟩:∃ R,R=wi k ⟨vk,n,t⟩:=⟨_,rfl⟩
 rw [← hR]
 unfold wi at hR
 dsimp only at hR
 refine zr ?_;unhygienic intros
 refine fB T161 [.t 4] ?_
 refine Aq ?_
 exact fBo (h:=by rw [hR,Bool.eq_iff_iff];simp [ee,or_assoc])
def vU (o:Int):Bool:=decide (o=1∨o=4∨o=2∨o=3)
def vP (o:Int):Bool:=decide (o=1∨o=4)
def wH (o:Int):Int:=if o<0∨12<o then 0 else if o<5 then 0 else if o=12 then 1 else 2
def wF (o:Int):Bool:=decide (0≤o∧o≤12)
theorem P_expr_uses (o:Int):PCall EE 159 [int o] (.tup [bool (vU o),bool (vP o)]):=by
 obtain ⟨R,hR⟩:∃ R,R=vU o:=⟨_,rfl⟩
 obtain ⟨R2,hR2⟩:∃ R,R=vP o:=⟨_,rfl⟩
 rw [← hR,← hR2]
 unfold vU at hR
 unfold vP at hR2
 refine zr ?_;unhygienic intros
 refine fB T159 [.t 2,.t 3] ?_
 refine goA 0 ?_
 refine oC (fun c1=>?_) fun c1=>?_
 ·
  simp [ee] at c1
  refine goA 0 ?_
  refine oC (fun c2=>?_) fun c2=>?_
  ·
   simp [ee] at c2
   refine Aq ?_
   refine zR rfl rfl ?_
   exact Fz.none (.tup' ⟨.of (congrArg bool (by rw [hR];symm;first | exact decide_eq_true (by omega) | exact decide_eq_false (by omega))),.of (congrArg bool (by rw [hR2];symm;first | exact decide_eq_true (by omega) | exact decide_eq_false (by omega))),trivial⟩)
  simp [ee] at c2
  refine goA 0 ?_
  refine oC (fun c3=>?_) fun c3=>?_
  ·
   simp [ee] at c3
   refine goA 0 ?_
   refine oC (fun c4=>?_) fun c4=>?_
   ·
    simp [ee] at c4
    refine Aq ?_
    refine zR rfl rfl ?_
    exact Fz.none (.tup' ⟨.of (congrArg bool (by rw [hR];symm;first | exact decide_eq_true (by omega) | exact decide_eq_false (by omega))),.of (congrArg bool (by rw [hR2];symm;first | exact decide_eq_true (by omega) | exact decide_eq_false (by omega))),trivial⟩)
   simp [ee] at c4
   refine Aq ?_
   refine zR rfl rfl ?_
   exact Fz.none (.tup' ⟨.of (congrArg bool (by rw [hR];symm;first | exact decide_eq_true (by omega) | exact decide_eq_false (by omega))),.of (congrArg bool (by rw [hR2];symm;first | exact decide_eq_true (by omega) | exact decide_eq_false (by omega))),trivial⟩)
  simp [ee] at c3
  refine goA 0 ?_
  refine oC (fun c5=>?_) fun c5=>?_
  ·
   simp [ee] at c5
   refine Aq ?_
   refine zR rfl rfl ?_
   exact Fz.none (.tup' ⟨.of (congrArg bool (by rw [hR];symm;first | exact decide_eq_true (by omega) | exact decide_eq_false (by omega))),.of (congrArg bool (by rw [hR2];symm;first | exact decide_eq_true (by omega) | exact decide_eq_false (by omega))),trivial⟩)
  simp [ee] at c5
  refine Aq ?_
  refine zR rfl rfl ?_
  exact Fz.none (.tup' ⟨.of (congrArg bool (by rw [hR];symm;first | exact decide_eq_true (by omega) | exact decide_eq_false (by omega))),.of (congrArg bool (by rw [hR2];symm;first | exact decide_eq_true (by omega) | exact decide_eq_false (by omega))),trivial⟩)
 simp [ee] at c1
 refine goA 0 ?_
 refine oC (fun c6=>?_) fun c6=>?_
 ·
  simp [ee] at c6
  refine Aq ?_
  refine zR rfl rfl ?_
  exact Fz.none (.tup' ⟨.of (congrArg bool (by rw [hR];symm;first | exact decide_eq_true (by omega) | exact decide_eq_false (by omega))),.of (congrArg bool (by rw [hR2];symm;first | exact decide_eq_true (by omega) | exact decide_eq_false (by omega))),trivial⟩)
 simp [ee] at c6
 refine goA 0 ?_
 refine oC (fun c7=>?_) fun c7=>?_
 ·
  simp [ee] at c7
  refine goA 0 ?_
  refine oC (fun c8=>?_) fun c8=>?_
  ·
   simp [ee] at c8
   refine Aq ?_
   refine zR rfl rfl ?_
   exact Fz.none (.tup' ⟨.of (congrArg bool (by rw [hR];symm;first | exact decide_eq_true (by omega) | exact decide_eq_false (by omega))),.of (congrArg bool (by rw [hR2];symm;first | exact decide_eq_true (by omega) | exact decide_eq_false (by omega))),trivial⟩)
  simp [ee] at c8
  refine Aq ?_
  refine zR rfl rfl ?_
  exact Fz.none (.tup' ⟨.of (congrArg bool (by rw [hR];symm;first | exact decide_eq_true (by omega) | exact decide_eq_false (by omega))),.of (congrArg bool (by rw [hR2];symm;first | exact decide_eq_true (by omega) | exact decide_eq_false (by omega))),trivial⟩)
 simp [ee] at c7
 refine goA 0 ?_
 refine oC (fun c9=>?_) fun c9=>?_
 ·
  simp [ee] at c9
  refine Aq ?_
  refine zR rfl rfl ?_
  exact Fz.none (.tup' ⟨.of (congrArg bool (by rw [hR];symm;first | exact decide_eq_true (by omega) | exact decide_eq_false (by omega))),.of (congrArg bool (by rw [hR2];symm;first | exact decide_eq_true (by omega) | exact decide_eq_false (by omega))),trivial⟩)
 simp [ee] at c9
 refine Aq ?_
 refine zR rfl rfl ?_
 exact Fz.none (.tup' ⟨.of (congrArg bool (by rw [hR];symm;first | exact decide_eq_true (by omega) | exact decide_eq_false (by omega))),.of (congrArg bool (by rw [hR2];symm;first | exact decide_eq_true (by omega) | exact decide_eq_false (by omega))),trivial⟩)
theorem P_expr_arity (o:Int):PCall EE 158 [int o] (.tup [int (wH o),bool (wF o)]):=by
 obtain ⟨R,hR⟩:∃ R,R=wH o:=⟨_,rfl⟩
 obtain ⟨R2,hR2⟩:∃ R,R=wF o:=⟨_,rfl⟩
 rw [← hR,← hR2]
 unfold wH at hR
 unfold wF at hR2
 refine zr ?_;unhygienic intros
 refine fB T158 [.t 2,.t 3] ?_
 refine goA 0 ?_
 refine oC (fun c1=>?_) fun c1=>?_
 ·
  simp [ee] at c1
  refine Aq ?_
  refine zR rfl rfl ?_
  exact Fz.none (.tup' ⟨.of (congrArg int (by rw [hR];(repeat' split)<;>first | rfl | omega)),.of (congrArg bool (by rw [hR2];simp;omega)),trivial⟩)
 simp [ee] at c1
 refine goA 0 ?_
 refine oC (fun c2=>?_) fun c2=>?_
 ·
  simp [ee] at c2
  refine Aq ?_
  refine zR rfl rfl ?_
  exact Fz.none (.tup' ⟨.of (congrArg int (by rw [hR];(repeat' split)<;>first | rfl | omega)),.of (congrArg bool (by rw [hR2];simp;omega)),trivial⟩)
 simp [ee] at c2
 refine goA 0 ?_
 refine oC (fun c3=>?_) fun c3=>?_
 ·
  simp [ee] at c3
  refine Aq ?_
  refine zR rfl rfl ?_
  exact Fz.none (.tup' ⟨.of (congrArg int (by rw [hR];(repeat' split)<;>first | rfl | omega)),.of (congrArg bool (by rw [hR2];simp;omega)),trivial⟩)
 simp [ee] at c3
 refine Aq ?_
 refine zR rfl rfl ?_
 exact Fz.none (.tup' ⟨.of (congrArg int (by rw [hR];(repeat' split)<;>first | rfl | omega)),.of (congrArg bool (by rw [hR2];simp;omega)),trivial⟩)
def Vl0 : Vl:=⟨0,0,⟨#[]⟩⟩
theorem Vl.eq0 {v:Vl}:v=Vl0↔v.kind=0∧v.num=0∧v.text.toList=[]:=by
 have hn:(ByteArray.mk #[]).toList=[]:=by simp
 rw [← hn]
 obtain ⟨k,n,t⟩:=v
 simp only [Vl0,Vl.mk.injEq,bs_nil]
open Classical in
noncomputable def Ex.consE (e:Ex):Int:=if e.val.chk≠0 then e.val.chk else if e.op=4∧(wi e.kind e.val=false∨(e.kind=1∧e.val≠Vl0)) then 9 else 0
def Ex.formB (e:Ex):Prop:=(vU e.op=true∨e.var=0)∧(vP e.op=true∨e.fld=0)∧(e.op=4∨e.kind=0)∧((e.op=4∨e.op=0)∨e.val=Vl0)
open Classical in
noncomputable def Ex.nodeE (e:Ex):Int :=
 if wF e.op=false then 1 else if (e.args.length:Int)≠wH e.op then 15
 else if (vU e.op=true∧(e.var<0∨16≤e.var))∨(vP e.op=true∧(e.fld<0∨8≤e.fld)) then 2
 else if e.op=4∧(e.kind<1∨5<e.kind) then 1
 else if (e.op=4∨e.op=0)∧e.consE≠0 then e.consE
 else if e.formB then 0 else 3
theorem P_expr_constants (e:Ex):PCall EE 160 [e.enc] (int e.consE):=by
 have hs:=P_expr_suits e.kind e.val
 have hk:=P_value_Check e.val
 have h0:=@Vl.eq0 e.val
 have hcl:=Ex.closed e
 obtain ⟨R,hR⟩:∃ R,R=e.consE:=⟨_,rfl⟩
 rw [← hR]
 unfold Ex.consE at hR
 generalize wi e.kind e.val=sb at *
 generalize e.val.chk=ck at *
 obtain ⟨o,a,v,f,k,⟨xk,xn,xt⟩⟩:=e
 simp only [Ex.op,Ex.kind,Ex.val] at *
 rw [Ex.enc_mk] at hcl ⊢
 unfold Vl.enc Vl.cs at *
 dsimp only at *
 refine zr ?_;unhygienic intros
 generalize mapE Ex.enc a=es at *
 refine fB T160 [.t 2] ?_
 refine Aq ?_
 refine oPA hk ?_
 refine goA 0 ?_
 refine oC (fun c1=>?_) fun c1=>?_
 ·
  simp [ee] at c1
  refine Aq ?_
  exact fG
 simp [ee] at c1
 refine goA 0 ?_
 refine zj rfl rfl (fun c2=>?_) (fun c2=>?_)
 ·
  simp [ee] at c2
  refine Aq ?_
  refine oPG hs ?_
  refine goA 0 ?_
  refine goA 1 ?_
  refine goA 1 ?_
  refine nsB hX (by conv=>lhs;cbv) ?_
  refine goA 0 ?_
  refine oC (fun c3=>?_) fun c3=>?_
  ·
   simp [ee] at c3
   refine Aq ?_
   exact fG
  simp [ee] at c3
  refine Aq ?_
  exact fG
 simp [ee] at c2
 refine Aq ?_
 refine zi rfl rfl ?_
 refine Aq ?_
 exact fG
theorem P_expr_node (e:Ex) (hlen:e.args.length<1048576):PCall EE 132 [e.enc] (int e.nodeE):=by
 have hu:=P_expr_uses e.op
 have har:=P_expr_arity e.op
 have hk:=P_expr_constants e
 have h0:=@Vl.eq0 e.val
 have hcl:=Ex.closed e
 obtain ⟨R,hR⟩:∃ R,R=e.nodeE:=⟨_,rfl⟩
 rw [← hR]
 unfold Ex.nodeE Ex.formB at hR
 generalize vU e.op=uv at *
 generalize vP e.op=uf at *
 generalize wH e.op=an at *
 generalize wF e.op=ab at *
 generalize e.consE=ck at *
 obtain ⟨o,a,v,f,k,⟨xk,xn,xt⟩⟩:=e
 simp only [Ex.op,Ex.kind,Ex.val,Ex.args,Ex.var,Ex.fld] at *
 rw [Ex.enc_mk] at hcl hk ⊢
 dsimp only at *
 refine zr ?_;unhygienic intros
 generalize hes:mapE Ex.enc a=es at *
 have hel:es.length=a.length:=by rw [← hes,zq]
 refine fB T132 [.t 2] ?_
 refine Aq ?_
 refine oPA har ?_
 refine goA 0 ?_
 refine oC (fun c1=>?_) fun c1=>?_
 ·
  simp [ee] at c1
  refine Aq ?_
  exact fG
 simp [ee] at c1
 refine goA 0 ?_
 refine oC (fun c2=>?_) fun c2=>?_
 ·
  simp [ee] at c2
  refine Aq ?_
  exact fG
 simp [ee] at c2
 refine Aq ?_
 refine oPA hu ?_
 refine goA 0 ?_
 refine nsB hX (by conv=>lhs;cbv) ?_
 refine goA 0 ?_
 refine nsB hX (by conv=>lhs;cbv) ?_
 refine goA 0 ?_
 refine oC (fun c3=>?_) fun c3=>?_
 ·
  simp [ee] at c3
  refine Aq ?_
  exact fG
 simp [ee] at c3
 refine goA 0 ?_
 refine nsB hX (by conv=>lhs;cbv) ?_
 refine goA 0 ?_
 refine oC (fun c4=>?_) fun c4=>?_
 ·
  simp [ee] at c4
  refine Aq ?_
  exact fG
 simp [ee] at c4
 refine goA 0 ?_
 refine oC (fun c5=>?_) fun c5=>?_
 ·
  simp [ee] at c5
  refine Aq ?_
  refine oPA hk ?_
  refine goA 0 ?_
  refine oC (fun c6=>?_) fun c6=>?_
  ·
   simp [ee] at c6
   refine Aq ?_
   exact fG
  simp [ee] at c6
  refine goA 0 ?_
  refine nsB hX (by conv=>lhs;cbv) ?_
  refine goA 0 ?_
  refine nsB hX (by conv=>lhs;cbv) ?_
  refine goA 0 ?_
  refine nsB hX (by conv=>lhs;cbv) ?_
  refine goA 0 ?_
  refine oC (fun c7=>?_) fun c7=>?_
  ·
   simp [ee] at c7
   refine Aq ?_
   exact fG
  simp [ee] at c7
  refine Aq ?_
  exact fG
 simp [ee] at c5
 refine goA 0 ?_
 refine nsB hX (by conv=>lhs;cbv) ?_
 refine goA 0 ?_
 refine nsB hX (by conv=>lhs;cbv) ?_
 refine goA 0 ?_
 refine nsB hX (by conv=>lhs;cbv) ?_
 refine goA 0 ?_
 refine oC (fun c8=>?_) fun c8=>?_
 ·
  simp [ee] at c8
  refine Aq ?_
  exact fG
 simp [ee] at c8
 refine Aq ?_
 exact fG
theorem P_expr_Size : ∀ p:Ex,p.Sm→PCall EE 130 [p.enc] (.tup [int p.cnt,int p.dep]):=by
 refine Ex.ind ?_
 intro o a v f k x ih hs
 have hlen:=hs.len
 have hih:∀ q∈a,PCall EE 130 [q.enc] (.tup [int q.cnt,int q.dep]):=fun q hq=>ih q hq (hs.arg hq)
 have hcl:=Ex.closedI a
 unfold Ex.Sm at hs
 have hcnt:=hs
 simp only [Ex.cnt] at hcnt
 have hde:=fun q:Ex=>Ex.dep_le q
 simp only [Ex.cnt,Ex.dep]
 rw [Ex.enc_mk]
 refine zr ?_;unhygienic intros
 generalize hes:mapE Ex.enc a=es at *
 have hel:es.length=a.length:=by rw [← hes,zq]
 refine fB T130 [.t 2,.t 3] ?_
 refine Aq ?_
 refine zf (ι:=List Ex × List Ex × Int × Int × Int) (fun p=>([(5,int p.2.2.2.2),(4,int p.2.2.2.1),(13,int p.2.2.1),(12,int (lenA es)),(11,.isl 8 es)],[])) (fun p=>a=p.1++p.2.1∧p.2.2.1=p.1.length∧p.2.2.2.1=1+Ex.cntL p.1∧Ex.depL 0 a=Ex.depL p.2.2.2.2.toNat p.2.1∧0≤p.2.2.2.2∧p.2.2.2.2≤1048576) (fun p=>p.2.1.length) ([],a,0,1,0) ⟨rfl,rfl,rfl,rfl,by simp⟩ ?_ ?_
 · exact (eS [.gone] [])
 rintro ⟨d,r,i,nn,dd⟩ ⟨g1,gi,gn,gd,gb⟩
 dsimp only at g1 gi gn gd gb ⊢
 cases r with
 | nil =>
  have L1:=zu g1
  try simp only [List.length] at L1
  have hc:iLt i (lenA es)=false:=yW e_iLt e_lenA (by omega)
  rw [List.append_nil] at g1
  rw [gd,Ex.depL,g1]
  have ha1:iAdd .i64 dd 1=((dd.toNat+1:Nat):Int):=by rw [ww e_iAdd (by omega) (by omega)];omega
  have hn:nn=((1+Ex.cntL d:Nat):Int):=by omega
  have fz:=hc
  refine Cq ?_
  refine Aq ?_
  refine zo ?_
  refine Aq ?_
  refine zR rfl rfl ?_
  exact ⟨[],trivial,.tup' ⟨.of (congrArg int hn),.of (congrArg int ha1),trivial⟩⟩
 | cons q r =>
  have L1:=zu g1
  try simp only [List.length] at L1
  have hc:iLt i (lenA es)=true:=yY e_iLt e_lenA (by omega)
  have hat:=zP e_atA hes g1 gi
  have hq:=hih q (by rw [g1];simp)
  have hqc:=Ex.closed q
  have hqd:=hde q
  rw [g1,Ex.cntL_append,Ex.cntL] at hcnt
  obtain ⟨qO,qA,qV,qF,qK,qXk,qXn,qXt,hx⟩:=Ex.form q
  rw [hx] at hq hat hqc
  generalize hqn:(q.cnt:Int)=qn at hq
  generalize hqp:(q.dep:Int)=qp at hq
  have hn2:iAdd .i64 nn qn=1+Ex.cntL (d++[q]):=by rw [Ex.cntL_append,Ex.cntL,Ex.cntL,ww e_iAdd (by omega) (by omega)];omega
  have hi2:iAdd .i64 i 1=((d++[q]).length:Int):=by rw [List.length_append];exact zJ e_iAdd gi (by omega)
  have hd2:iMax dd qp=((max dd.toNat q.dep:Nat):Int):=by simp only [ee];split<;>omega
  have fz:=And.intro hc hat
  refine Cq ?_
  refine Cr ?_
  refine oPA hq ?_
  refine Aq ?_
  refine zw (d++[q],r,iAdd .i64 i 1,iAdd .i64 nn qn,iMax dd qp) ⟨by simp [g1],hi2,hn2,by rw [gd,hd2,Ex.depL];rfl,by show 0≤iMax dd qp;omega,by show iMax dd qp≤1048576;omega⟩ (by simp) (eS [.gone] [])
def zm {α:Type} (F:α→Int):List α→Int
 | []=>0
 | q :: r=>if F q≠0 then F q else zm F r
theorem z8 {α:Type} (F:α→Int):∀ a b:List α,zm F (a++b)=if zm F a≠0 then zm F a else zm F b
 | [],b=>by simp [zm]
 | q :: a,b=>by
  rw [List.cons_append,zm,zm,z8 F a b]
  by_cases h:F q=0<;>simp [h]
theorem P_expr_visit (g:FuncId) (cs:List AV) (hcs:AV.closedL cs=true) (F:Ex→Int):∀ e:Ex,e.Sm→(∀ q∈e.nodes,PCall EE g ([q.enc]++cs) (int (F q)))→PCall EE 131 [e.enc,.fn g cs] (int (zm F e.nodes)):=by
 refine Ex.ind ?_
 intro o a v f k x ih hs hF
 have hlen:=hs.len
 have hih:∀ q∈a,PCall EE 131 [q.enc,.fn g cs] (int (zm F q.nodes)):=fun q hq=>ih q hq (hs.arg hq) fun q2 hq2=>hF q2 (by
  rw [Ex.nodes]
  obtain ⟨d,r,rfl⟩:=List.append_of_mem hq
  simp [Ex.nodesL_append,Ex.nodesL,hq2])
 have hcl:=Ex.closedI a
 obtain ⟨pp,hpp⟩:∃ pp,pp=Ex.mk o a v f k x:=⟨_,rfl⟩
 have hh:=hF pp (by rw [Ex.nodes,hpp];simp)
 have hpe:pp.enc=(Ex.mk o a v f k x).enc:=by rw [hpp]
 rw [Ex.nodes,← hpp]
 obtain ⟨xk,xn,xt⟩:=x
 rw [Ex.enc_mk] at hpe
 dsimp only at hpe
 have hpc:=Ex.closed pp
 rw [hpe] at hh hpc ⊢
 obtain ⟨R,hR⟩:∃ R,R=zm F (pp :: Ex.nodesL a):=⟨_,rfl⟩
 rw [← hR]
 rw [zm] at hR
 have hfn:(AV.fn g cs).closed=true:=by simp [AV.closed,hcs]
 clear ih hs hF hpp hpe
 refine zr ?_;unhygienic intros
 generalize hes:mapE Ex.enc a=es at *
 have hel:es.length=a.length:=by rw [← hes,zq]
 generalize F pp=fp at *
 refine fB T131 [.t 4] ?_
 by_cases h1:fp=0
 rotate_left
 · have w1:iNe fp 0=true:=by simp only [ee];simpa using h1
   have hR:R=fp:=by rw [hR,if_pos h1]
   refine Aq ?_
   refine xz (args:=[AV.agg [int o,AV.isl 8 es,int v,int f,int k,int xk,int xn,str xt]]++cs) rfl rfl rfl rfl hh (by simp [AV.closedL,hpc,hcs]) ?_
   have fz:=w1
   refine Cq ?_
   refine Aq ?_
   exact fI (h:=hR.symm)
 have w1:iNe fp 0=false:=by simp only [ee];simpa using h1
 have hR:R=zm F (Ex.nodesL a):=by rw [hR,if_neg (by simpa using h1)]
 refine Aq ?_
 refine xz (args:=[AV.agg [int o,AV.isl 8 es,int v,int f,int k,int xk,int xn,str xt]]++cs) rfl rfl rfl rfl hh (by simp [AV.closedL,hpc,hcs]) ?_
 have fz:=w1
 refine Cq ?_
 refine Aq ?_
 refine zf (ι:=List Ex × List Ex × Int) (fun p=>([(18,int p.2.2),(17,int (lenA es)),(16,.isl 8 es),(1,.fn g cs)],[])) (fun p=>a=p.1++p.2.1∧p.2.2=p.1.length∧R=zm F (Ex.nodesL p.2.1)) (fun p=>p.2.1.length) ([],a,0) ⟨rfl,rfl,hR⟩ ?_ ?_
 · exact (eS [.gone] [])
 rintro ⟨d,r,i⟩ ⟨g1,gi,gR⟩
 dsimp only at g1 gi gR ⊢
 cases r with
 | nil =>
  have L1:=zu g1
  try simp only [List.length] at L1
  have hc:iLt i (lenA es)=false:=yW e_iLt e_lenA (by omega)
  have gR:R=0:=gR
  have fz:=hc
  refine Cq ?_
  refine Aq ?_
  refine zo ?_
  refine Aq ?_
  exact fI (h:=gR.symm)
 | cons q r =>
  have L1:=zu g1
  try simp only [List.length] at L1
  have hc:iLt i (lenA es)=true:=yY e_iLt e_lenA (by omega)
  have hat:=zP e_atA hes g1 gi
  have hq:=hih q (by rw [g1];simp)
  have hqc:=Ex.closed q
  rw [Ex.nodesL,z8] at gR
  obtain ⟨qO,qA,qV,qF,qK,qXk,qXn,qXt,hx⟩:=Ex.form q
  rw [hx] at hat hqc hq
  have hi2:iAdd .i64 i 1=((d++[q]).length:Int):=by rw [List.length_append];exact zJ e_iAdd gi (by omega)
  generalize zm F q.nodes=fq at *
  by_cases h2:fq=0
  · have w2:iNe fq 0=false:=by simp only [ee];simpa using h2
    rw [if_neg (by simpa using h2)] at gR
    have fz:=And.intro hc (And.intro hat w2)
    refine Cq ?_
    refine Cr ?_
    refine oPA hq ?_
    refine Cq ?_
    refine Aq ?_
    refine zw (d++[q],r,iAdd .i64 i 1) ⟨by simp [g1],hi2,gR⟩ (by simp) (eS [.gone] [])
  have w2:iNe fq 0=true:=by simp only [ee];simpa using h2
  rw [if_pos h2] at gR
  have fz:=And.intro hc (And.intro hat w2)
  refine Cq ?_
  refine Cr ?_
  refine oPA hq ?_
  refine Cq ?_
  refine Aq ?_
  refine zl ?_
  refine Aq ?_
  exact fI (h:=gR.symm)
noncomputable def Ex.chk (e:Ex):Int:=if 64<e.cnt then 5 else if 12<e.dep then 12 else zm Ex.nodeE e.nodes
theorem Ex.Sm.len' {e:Ex} (h:e.Sm):e.args.length<1048576:=by obtain ⟨o,a,v,f,k,x⟩:=e;exact h.len
theorem P_expr_Check (e:Ex) (hs:e.Sm):PCall EE 89 [e.enc] (int e.chk):=by
 have h1:=P_expr_Size e hs
 have h2:=P_expr_visit 132 [] rfl Ex.nodeE e hs fun q hq=>P_expr_node q (hs.node q hq).len'
 have hcl:=Ex.closed e
 obtain ⟨R,hR⟩:∃ R,R=e.chk:=⟨_,rfl⟩
 rw [← hR]
 unfold Ex.chk at hR
 generalize zm Ex.nodeE e.nodes=fe at *
 obtain ⟨eO,eA,eV,eF,eK,eXk,eXn,eXt,hx⟩:=Ex.form e
 rw [hx] at h1 h2 hcl ⊢
 generalize hn:(e.cnt:Int)=cn at *
 generalize hd:(e.dep:Int)=dn at *
 refine zr ?_;unhygienic intros
 refine fB T89 [.t 2] ?_
 refine Aq ?_
 refine oPA h1 ?_
 refine goA 0 ?_
 refine oC (fun c1=>?_) fun c1=>?_
 ·
  simp [ee] at c1
  refine Aq ?_
  exact fG
 simp [ee] at c1
 refine goA 0 ?_
 refine oC (fun c2=>?_) fun c2=>?_
 ·
  simp [ee] at c2
  refine Aq ?_
  exact fG
 simp [ee] at c2
 refine Aq ?_
 refine oPA h2 ?_
 refine Aq ?_
 exact fG
theorem P_expr_Same : ∀ x y:Ex,x.Sm→PCall EE 174 [x.enc,y.enc] (bool (eqB x y)):=by
 refine Ex.ind ?_
 intro o a v f k x ih y hs
 obtain ⟨o2,a2,v2,f2,k2,x2⟩:=y
 obtain ⟨xk,xn,xt⟩:=x
 obtain ⟨yk,yn,yt⟩:=x2
 have hlen:=hs.len
 have hih:∀ q∈a,∀ q2,PCall EE 174 [q.enc,q2.enc] (bool (eqB q q2)):=fun q hq q2=>ih q hq q2 (hs.arg hq)
 have hcl:=Ex.closedI a
 have hcl2:=Ex.closedI a2
 obtain ⟨R,hR⟩:∃ R,R=eqB (Ex.mk o a v f k ⟨xk,xn,xt⟩) (Ex.mk o2 a2 v2 f2 k2 ⟨yk,yn,yt⟩):=⟨_,rfl⟩
 rw [← hR,Ex.enc_mk,Ex.enc_mk]
 clear ih hs
 refine zr ?_;unhygienic intros
 generalize hes:mapE Ex.enc a=es at *
 generalize hes2:mapE Ex.enc a2=es2 at *
 have hel:es.length=a.length:=by rw [← hes,zq]
 have hel2:es2.length=a2.length:=by rw [← hes2,zq]
 refine fB T174 [.t 4] ?_
 refine goA 0 ?_
 refine oC (fun c1=>?_) fun c1=>?_
 · simp [ee] at c1
   have hR:R=false:=by
    rw [hR];refine uo fun h=>?_
    simp only [Ex.mk.injEq,Vl.mk.injEq] at h
    obtain ⟨rfl,rfl,rfl,rfl,rfl,rfl,rfl,rfl⟩:=h
    simp [hel,hel2] at c1
   refine Aq ?_
   exact fBo (h:=hR.symm)
 simp [ee] at c1
 obtain ⟨⟨⟨⟨⟨h1,h2⟩,h3⟩,h4⟩,⟨h5,h6,h7⟩⟩,h8⟩:=c1
 have h7:=tq h7
 subst h1 h2 h3 h4 h5 h6 h7
 have hl8:a.length=a2.length:=by omega
 have hR:R=eqB a a2:=by
  rw [hR]
  by_cases h:a=a2
  · rw [h,uW rfl,uW rfl]
  rw [uo h,uo (by simp [h])]
 refine Aq ?_
 refine zf (ι:=List Ex × List Ex × List Ex × List Ex × Int) (fun p=>([(51,int p.2.2.2.2),(50,int (lenA es)),(2,.ptr 0 0),(3,.ptr 1 0)],[.cells [int o,.isl 8 es,int v,int f,int k,int xk,int xn,str xt],.cells [int o,.isl 8 es2,int v,int f,int k,int xk,int xn,str xt]])) (fun p=>a=p.1++p.2.1∧a2=p.2.2.1++p.2.2.2.1∧p.2.2.2.2=p.1.length∧p.1=p.2.2.1) (fun p=>p.2.1.length) ([],a,[],a2,0) ⟨rfl,rfl,rfl,rfl⟩ ?_ ?_
 · exact (eS [.to 0,.to 1] [some 0,some 1])
 rintro ⟨d,r,d2,r2,i⟩ ⟨g1,g2,gi,gd⟩
 dsimp only at g1 g2 gi gd ⊢
 subst gd
 cases r with
 | nil =>
  have L1:=zu g1
  try simp only [List.length] at L1
  have hc:iLt i (lenA es)=false:=yW e_iLt e_lenA (by omega)
  have L2:=zu g2
  try simp only [List.length] at L2
  have hr2:r2=[]:=List.length_eq_zero_iff.1 (by omega)
  have hR:R=true:=by rw [hR];exact uW (by rw [g1,g2,hr2])
  have fz:=hc
  refine Cq ?_
  refine Aq ?_
  refine zo ?_
  refine Aq ?_
  exact fBo (h:=hR.symm)
 | cons q r =>
  have L1:=zu g1
  try simp only [List.length] at L1
  have hc:iLt i (lenA es)=true:=yY e_iLt e_lenA (by omega)
  have hat:=zP e_atA hes g1 gi
  have L2:=zu g2
  try simp only [List.length] at L2
  cases r2 with
  | nil=>exfalso;simp at L2;omega
  | cons q2 r2 =>
   have hat2:=zP e_atA hes2 g2 gi
   have hq:=hih q (by rw [g1];simp) q2
   have hqc:=Ex.closed q
   have hqc2:=Ex.closed q2
   obtain ⟨qO,qA,qV,qF,qK,qXk,qXn,qXt,hx⟩:=Ex.form q
   obtain ⟨q2O,q2A,q2V,q2F,q2K,q2Xk,q2Xn,q2Xt,hx2⟩:=Ex.form q2
   rw [hx,hx2] at hq
   rw [hx] at hat hqc
   rw [hx2] at hat2 hqc2
   have hi2:iAdd .i64 i 1=((d++[q]).length:Int):=by rw [List.length_append];exact zJ e_iAdd gi (by omega)
   by_cases hqq:q=q2
   · rw [uW hqq] at hq
     have hn:bNot true=false:=by simp [ee]
     have fz:=And.intro hc (And.intro hat (And.intro hat2 hn))
     refine Cq ?_
     refine Cr ?_
     refine zb rfl (by conv=>lhs;cbv) rfl ?_
     refine tgC ?_
     refine oPT hq ?_
     refine tgA ?_
     refine zW ⟨rfl,?_,?_⟩
     · simp only [za,zZ,List.cons_append,List.nil_append,List.append_nil];and_intros<;>first | trivial | (intro hp;first | rfl | exact absurd (show false=true from hp) Bool.false_ne_true)
     refine Cq ?_
     refine Aq ?_
     refine zw (d++[q],r,d++[q2],r2,iAdd .i64 i 1) ⟨by simp [g1],by simp [g2],hi2,by simp [hqq]⟩ (by simp) (eS [.to 0,.to 1] [some 0,some 1])
   rw [uo hqq] at hq
   have hn:bNot false=true:=by simp [ee]
   have hR:R=false:=by rw [hR];exact uo (by rw [g1,g2];simp [hqq])
   have fz:=And.intro hc (And.intro hat (And.intro hat2 hn))
   refine Cq ?_
   refine Cr ?_
   refine zb rfl (by conv=>lhs;cbv) rfl ?_
   refine tgC ?_
   refine oPT hq ?_
   refine tgA ?_
   refine zW ⟨rfl,?_,?_⟩
   · simp only [za,zZ,List.cons_append,List.nil_append,List.append_nil];and_intros<;>first | trivial | (intro hp;first | rfl | exact absurd (show false=true from hp) Bool.false_ne_true)
   refine Cq ?_
   refine Aq ?_
   refine zl ?_
   refine Aq ?_
   exact fBo (h:=hR.symm)
theorem enters_pattern_walk : yr EE.P 156:=enters_of rfl (by decide) T156.2
theorem enters_pattern_preorder_1 : yr EE.P 155:=enters_of rfl (by decide) T155.2
theorem C_walk (A0 A1 A2 A3 A4 A5 A6:List Pat→AObj) (Lp:AObj) (C0 C1:List Pat→AObj) (G:List Pat→Prop) (S:zz→Prop) (hb:∀ d,∀ o∈[A0 d,A1 d,A2 d,A3 d,A4 d,A5 d,A6 d,Lp,C0 d,C1 d],Keeps o) :
 ∀ p:Pat,p.Sm→∀ (pre all:List Pat) (H0:zz),HEnt EE 8 7 H0 [A0 pre,A1 pre,A2 pre,A3 pre,A4 pre,A5 pre,A6 pre,Lp,C0 pre,C1 pre]→(∃ post,all=pre++(p.nodes++post))→G pre →
  (∀ d q r,all=d++q :: r→G d→tr EE 7 [q.enc] [A0 d,A1 d,A2 d,A3 d,A4 d,A5 d,A6 d,Lp,C0 d,C1 d] (YdR EE (G (d++[q])) [A0 (d++[q]),A1 (d++[q]),A2 (d++[q]),A3 (d++[q]),A4 (d++[q]),A5 (d++[q]),A6 (d++[q]),Lp,C0 (d++[q]),C1 (d++[q])] S)) →
  ACallN EE 8 156 [p.enc,.yld 7] H0 (WkR (G (pre++p.nodes)) [A0 (pre++p.nodes),A1 (pre++p.nodes),A2 (pre++p.nodes),A3 (pre++p.nodes),A4 (pre++p.nodes),A5 (pre++p.nodes),A6 (pre++p.nodes),Lp,C0 (pre++p.nodes),C1 (pre++p.nodes)] S):=by
 refine Pat.ind ?_
 intro o a t v s n c ih hs pre all H0 h0 hpost hG hy
 have hlen:=hs.len
 obtain ⟨post,hall⟩:=hpost
 rw [Pat.nodes,List.cons_append] at hall
 have hyp:=hy pre _ _ hall hG
 obtain ⟨pp,hpp⟩:∃ pp,pp=Pat.mk o a t v s n c:=⟨_,rfl⟩
 rw [← hpp] at hall hyp
 have hnod:(Pat.mk o a t v s n c).nodes=pp :: Pat.nodesL a:=by rw [Pat.nodes,hpp]
 rw [hnod]
 have hpc:=Pat.closed pp
 have hpe:pp.enc=(Pat.mk o a t v s n c).enc:=by rw [hpp]
 have hih:∀ q∈a,_:=fun q hq=>ih q hq (hs.arg hq)
 have hcl:=Pat.closedI a
 have hcL:=Pat.closedL a
 obtain ⟨co,ca,cv,cf,ck,xk,xn,xt⟩:=c
 rw [Pat.enc_mk] at hpe ⊢
 dsimp only at hpe ⊢
 rw [hpe] at hyp hpc
 clear ih hpp hpe hs hnod
 refine zr ?_;unhygienic intros
 generalize hes:mapE Pat.enc a=es at *
 generalize mapE Ex.enc ca=ec at *
 have hel:es.length=a.length:=by rw [← hes,zq]
 have hpcl:AV.closedL [int o,.isl 14 es,int t,int v,int s,int n,int co,.isl 8 ec,int cv,int cf,int ck,int xk,int xn,str xt]=true:=hpc
 have hnt:bNot true=false:=by simp [ee]
 have hnf:bNot false=true:=by simp [ee]
 have hd:∀ d,∀ o∈[A0 d,A1 d,A2 d,A3 d,A4 d,A5 d,A6 d,Lp,C0 d,C1 d],o.sub (vi 10)=o:=fun d=>keeps_drop rfl (hb d)
 have hip:(AV.iptr [int o,.isl 14 es,int t,int v,int s,int n,int co,.isl 8 ec,int cv,int cf,int ck,int xk,int xn,str xt]).closed=true:=hpc
 refine nB T156 [.t 4] ?_
 refine xM (h0.ent (F':=[(0,.agg [int o,.isl 14 es,int t,int v,int s,int n,int co,.isl 8 ec,int cv,int cf,int ck,int xk,int xn,str xt]),(1,.yld 7)]) ⟨.cl hpc,.refl _,trivial⟩) ?_
 have hyall:∀ d q r,pre++pp :: (Pat.nodesL a++post)=d++q :: r→G d→_:=fun d q r h hg=>hy d q r (hall.trans h) hg
 refine goA 0 ?_
 refine on_fz10 (F':=[(8,.agg [int o,.isl 14 es,int t,int v,int s,int n,int co,.isl 8 ec,int cv,int cf,int ck,int xk,int xn,str xt]),(7,.yld 7),(2,.iptr [int o,.isl 14 es,int t,int v,int s,int n,int co,.isl 8 ec,int cv,int cf,int ck,int xk,int xn,str xt]),(1,.yld 7)]) (hb pre) hpcl ⟨.cl hpc,.refl _,.refl _,.refl _,trivial⟩ ?_
 refine on_callv rfl rfl rfl rfl hyp ?_
 rintro v1 H1 (⟨rfl,hG1,he⟩ | ⟨rfl,hS⟩)
 rotate_left
 · have fz:=hnf
   refine Cr ?_
   exact xi (.refl _ _ _ _ _) rfl (.inr ⟨rfl,hS⟩)
 refine xu (he.ent (F':=[(9,.val (.bool true)),(2,.iptr [int o,.isl 14 es,int t,int v,int s,int n,int co,.isl 8 ec,int cv,int cf,int ck,int xk,int xn,str xt]),(1,.yld 7)]) ⟨.refl _,.cl hip,.refl _,trivial⟩) ?_
 have fz:=hnt
 refine Cq ?_
 refine Aq ?_
 refine zf (ι:=List Pat × List Pat × Int × List Pat) (fun p=>([(14,int p.2.2.1),(13,int (lenA es)),(12,.isl 14 es),(1,.yld 7)],[A0 p.2.2.2,A1 p.2.2.2,A2 p.2.2.2,A3 p.2.2.2,A4 p.2.2.2,A5 p.2.2.2,A6 p.2.2.2,Lp,C0 p.2.2.2,C1 p.2.2.2])) (fun p=>a=p.1++p.2.1∧p.2.2.1=p.1.length∧p.2.2.2=pre++pp :: Pat.nodesL p.1∧G p.2.2.2) (fun p=>p.2.1.length) ([],a,0,pre++[pp]) ⟨rfl,rfl,by simp [Pat.nodesL],hG1⟩ ?_ ?_
 · exact zI ⟨.refl _,.refl _,.refl _,.refl _,trivial⟩
 rintro ⟨d,r,i,x⟩ ⟨g1,gi,gx,gG⟩
 dsimp only at g1 gi gx gG ⊢
 cases r with
 | nil =>
  have L1:=zu g1
  try simp only [List.length] at L1
  have hc:iLt i (lenA es)=false:=yW e_iLt e_lenA (by omega)
  rw [List.append_nil] at g1
  have fz:=hc
  refine Cr ?_
  refine zo ?_
  refine Aq ?_
  exact xi (.refl _ _ _ _ _) rfl (.inl ⟨rfl,by rw [g1,← gx];exact gG,by rw [g1,gx]⟩)
 | cons q r =>
  have L1:=zu g1
  try simp only [List.length] at L1
  have hc:iLt i (lenA es)=true:=yY e_iLt e_lenA (by omega)
  have hat:=zP e_atA hes g1 gi
  have hq:=hih q (by rw [g1];simp) x (pre++pp :: (Pat.nodesL a++post)) [A0 x,A1 x,A2 x,A3 x,A4 x,A5 x,A6 x,Lp,C0 x,C1 x] (HEnt.refl (by simp)) ⟨Pat.nodesL r++post,by rw [gx,g1,Pat.nodesL_append];simp [Pat.nodesL]⟩ gG hyall
  have hqc:=Pat.closed q
  have hi2:iAdd .i64 i 1=((d++[q]).length:Int):=by rw [List.length_append];exact zJ e_iAdd gi (by omega)
  have hx2:x++q.nodes=pre++pp :: Pat.nodesL (d++[q]):=by rw [gx,Pat.nodesL_append];simp [Pat.nodesL]
  obtain ⟨qO,qA,qT,qV,qS,qN,qCo,qCa,qCv,qCf,qCk,qXk,qXn,qXt,hx⟩:=Pat.form q
  rw [hx] at hat hqc hq
  generalize hXx:x++q.nodes=X at hq hx2
  have fz:=And.intro hc hat
  refine Cr ?_
  refine on_drop (H:=[A0 x,A1 x,A2 x,A3 x,A4 x,A5 x,A6 x,Lp,C0 x,C1 x]) (X:=[_]) (F':=[(18,.agg [int qO,.isl 14 qA,int qT,int qV,int qS,int qN,int qCo,.isl 8 qCa,int qCv,int qCf,int qCk,int qXk,int qXn,str qXt]),(19,.yld 7),(14,int i),(13,int (lenA es)),(12,.isl 14 es),(1,.yld 7)]) (hd x) (by simp) ⟨.cl hqc,.refl _,.refl _,.refl _,.cl hcl,.refl _,trivial⟩ ?_
  refine on_callN (F2:=[(14,int i),(13,int (lenA es)),(12,.isl 14 es),(1,.yld 7)]) rfl rfl rfl enters_pattern_walk hq ⟨.refl _,.refl _,.cl hcl,.refl _,trivial⟩ ?_
  rintro v2 H2 (⟨rfl,hG2,rfl⟩ | ⟨rfl,hS⟩)
  · have fz:=hnt
    refine Cr ?_
    exact zw (d++[q],r,iAdd .i64 i 1,X) ⟨by simp [g1],hi2,hx2,hG2⟩ (by simp) (zI ⟨.refl _,.refl _,.refl _,.refl _,trivial⟩)
  have fz:=hnf
  refine Cr ?_
  refine zl ?_
  refine Aq ?_
  exact xi (.refl _ _ _ _ _) rfl (.inr ⟨rfl,hS⟩)
theorem C_preorder1 (A0 A1 A2 A3 A4 A5 A6:List Pat→AObj) (Lp:AObj) (C0 C1:List Pat→AObj) (G:List Pat→Prop) (S:zz→Prop) (hb:∀ d,∀ o∈[A0 d,A1 d,A2 d,A3 d,A4 d,A5 d,A6 d,Lp,C0 d,C1 d],Keeps o)
 (p:Pat) (hs:p.Sm) {cs:List AV} (hp:p.enc=.agg cs) (H0:zz) (hN:H0.length=8) (h0:HEnt EE 8 7 H0 [A0 [],A1 [],A2 [],A3 [],A4 [],A5 [],A6 [],Lp,C0 [],C1 []]) (hG:G [])
  (hy:∀ d q r,p.nodes=d++q :: r→G d→tr EE 7 [q.enc] [A0 d,A1 d,A2 d,A3 d,A4 d,A5 d,A6 d,Lp,C0 d,C1 d] (YdR EE (G (d++[q])) [A0 (d++[q]),A1 (d++[q]),A2 (d++[q]),A3 (d++[q]),A4 (d++[q]),A5 (d++[q]),A6 (d++[q]),Lp,C0 (d++[q]),C1 (d++[q])] S)) :
  ACall EE 155 [.yld 7,.iptr cs] H0 (fun _ H1=>(G p.nodes∧H1=[A0 p.nodes,A1 p.nodes,A2 p.nodes,A3 p.nodes,A4 p.nodes,A5 p.nodes,A6 p.nodes,Lp,C0 p.nodes,C1 p.nodes])∨S H1):=by
 have hw:=C_walk A0 A1 A2 A3 A4 A5 A6 Lp C0 C1 G S hb p hs [] p.nodes H0 h0 ⟨[],by simp⟩ hG hy
 rw [List.nil_append] at hw
 have hpc:=Pat.closed p
 obtain ⟨pO,pA,pT,pV,pS,pN,pCo,pCa,pCv,pCf,pCk,pXk,pXn,pXt,hx⟩:=Pat.form p
 rw [hx] at hp hw hpc
 injection hp with hp
 subst hp
 generalize p.nodes=nl at *
 clear hy h0
 have hip:(AV.iptr [int pO,.isl 14 pA,int pT,int pV,int pS,int pN,int pCo,.isl 8 pCa,int pCv,int pCf,int pCk,int pXk,int pXn,str pXt]).closed=true:=hpc
 refine zr ?_;unhygienic intros
 refine rB T155 [] ?_
 rw [hN]
 refine goA 0 ?_
 refine on_callN (F2:=[]) rfl rfl rfl enters_pattern_walk hw trivial ?_
 rintro v2 H2 (⟨rfl,hG2,rfl⟩ | ⟨rfl,hS⟩)
 · refine goA 0 ?_
   exact o_norm (.refl _ _ _ _ _) rfl (.inl ⟨hG2,rfl⟩)
 refine goA 0 ?_
 exact o_norm (.refl _ _ _ _ _) rfl (.inr hS)
theorem P_preorder (p:Pat) {cs:List AV} (hp:p.enc=.agg cs):PCall EE 123 [.agg cs] (.fn 155 [.iptr cs]):=by
 have hpc:=Pat.closed p
 obtain ⟨pO,pA,pT,pV,pS,pN,pCo,pCa,pCv,pCf,pCk,pXk,pXn,pXt,hx⟩:=Pat.form p
 rw [hx] at hp hpc
 injection hp with hp
 subst hp
 have hcl:AV.closedL [int pO,.isl 14 pA,int pT,int pV,int pS,int pN,int pCo,.isl 8 pCa,int pCv,int pCf,int pCk,int pXk,int pXn,str pXt]=true:=hpc
 refine zr ?_;unhygienic intros
 refine fB T123 [.t 2] ?_
 refine goA 0 ?_
 refine zR rfl rfl ⟨[.icells [int pO,.isl 14 pA,int pT,int pV,int pS,int pN,int pCo,.isl 8 pCa,int pCv,int pCf,int pCk,int pXk,int pXn,str pXt]],⟨⟨_,rfl,(zp _ hcl).symm⟩,trivial⟩,.of rfl⟩
theorem on_preorder {n N:Nat} {Q:zL→AFr→zz→Prop} {k:List KI} {F:AFr} {f:Opd} {ps:List Nat} {a b:ACode} {o0 o1 o2 o3 o4 o5 o6:AObj} (A0 A1 A2 A3 A4 A5 A6 C0 C1:List Pat→AObj) (G:List Pat→Prop) (p:Pat) (hs:p.Sm) {cs:List AV} (hp:p.enc=.agg cs)
 (hf:f.ev EE.G F=.fn 155 [.iptr cs]) (hps:ps.length=1) (hF:FK F) (hG:G [])
 (h0:HEnt EE 8 7 [o0,o1,o2,o3,o4,o5,o6,.loop F n ps a b .ready none] [A0 [],A1 [],A2 [],A3 [],A4 [],A5 [],A6 [],.loop F n ps a b .ready none,C0 [],C1 []])
 (k0:∀ d,Keeps (A0 d)) (k1:∀ d,Keeps (A1 d)) (k2:∀ d,Keeps (A2 d)) (k3:∀ d,Keeps (A3 d)) (k4:∀ d,Keeps (A4 d)) (k5:∀ d,Keeps (A5 d)) (k6:∀ d,Keeps (A6 d)) (k8:∀ d,Keeps (C0 d)) (k9:∀ d,Keeps (C1 d))
 (hend:G p.nodes→Holds EE n N Q (.out .normal) k F [A0 p.nodes,A1 p.nodes,A2 p.nodes,A3 p.nodes,A4 p.nodes,A5 p.nodes,A6 p.nodes,.dead,C0 p.nodes,C1 p.nodes])
 (hy:∀ d q r,p.nodes=d++q :: r→G d→Holds EE n 10 (AssignQ EE 7 10 F n ps a b (YdR EE (G (d++[q])) [A0 (d++[q]),A1 (d++[q]),A2 (d++[q]),A3 (d++[q]),A4 (d++[q]),A5 (d++[q]),A6 (d++[q]),.loop F n ps a b .ready none,C0 (d++[q]),C1 (d++[q])] (StopS EE n N Q k F ps a b))) (.code a) [] (ta F ps [q.enc])
  [A0 d,A1 d,A2 d,A3 d,A4 d,A5 d,A6 d,.loop F n ps a b .ready none,C0 d,C1 d]) :
 Holds EE n N Q (.code (.rfun f ps a b)) k F [o0,o1,o2,o3,o4,o5,o6]:=by
 refine on_rfun hf enters_pattern_preorder_1 ?_
 refine ACall.mono (C_preorder1 A0 A1 A2 A3 A4 A5 A6 (.loop F n ps a b .ready none) C0 C1 G (StopS EE n N Q k F ps a b) (fun d o ho=>?_) p hs hp _ rfl h0 hG (fun d q r h hg=>yield_round (l:=7) rfl hps (hy d q r h hg))) ?_
 · simp only [List.mem_cons,List.not_mem_nil,or_false] at ho
   rcases ho with rfl | rfl | rfl | rfl | rfl | rfl | rfl | rfl | rfl | rfl
   · exact k0 d
   · exact k1 d
   · exact k2 d
   · exact k3 d
   · exact k4 d
   · exact k5 d
   · exact k6 d
   · exact .loop hF
   · exact k8 d
   exact k9 d
 rintro v H1 (⟨hg,rfl⟩ | ⟨e,h1,h2⟩)
 · exact ⟨.ready,none,rfl,by simp,hend hg⟩
 exact ⟨.done,some e,h1,by simp,h2⟩
def wE (o:Int):Int:=if o=0 then 0 else if o=1∨o=2∨o=3∨o=8 then 2 else 1
def vC (o:Int):Int:=if o=0 then 0 else if o=1∨o=2∨o=3 then 64 else if o=8 then 2 else 1
def zD (o:Int):Bool:=decide (o=0∨o=5∨o=9)
def xO (o:Int):Bool:=decide (o=0∨o=5∨o=7∨o=9)
def yD (o:Int):Bool:=decide (o=5∨o=6∨o=9∨o=10)
def y8 (o:Int):Bool:=decide (o=6∨o=10)
theorem shape_row {o:Int} (h0:0≤o) (h1:o<11):Wd.rowA (Classical.choice wj).g o 6=[int (wE o),int (vC o),bool (zD o),bool (xO o),bool (yD o),bool (y8 o)]:=by
 rw [(Classical.choice wj).h]
 obtain ⟨n,rfl⟩:∃ n:Nat,o=n:=⟨o.toNat,by omega⟩
 have:n<11:=by omega
 match n,this with
 | 0,_ | 1,_ | 2,_ | 3,_ | 4,_ | 5,_ | 6,_ | 7,_ | 8,_ | 9,_ | 10,_=>rfl
theorem P_within (u:Bool) (n m:Int):PCall EE 173 [bool u,int n,int m] (bool (decide (u=false∨(0≤n∧n≤m)))):=by
 obtain ⟨R,hR⟩:∃ R,R=decide (u=false∨(0≤n∧n≤m)):=⟨_,rfl⟩
 rw [← hR]
 refine zr ?_;unhygienic intros
 refine fB T173 [.t 6] ?_
 refine goA 0 ?_
 refine nsB hX (by conv=>lhs;cbv) ?_
 refine Aq ?_
 exact fBo (h:=by rw [hR,Bool.eq_iff_iff];simp [ee])
theorem P_unused (u:Bool) (n:Int):PCall EE 175 [bool u,int n] (bool (decide (u=true∨n=0))):=by
 obtain ⟨R,hR⟩:∃ R,R=decide (u=true∨n=0):=⟨_,rfl⟩
 rw [← hR]
 refine zr ?_;unhygienic intros
 refine fB T175 [.t 4] ?_
 refine Aq ?_
 exact fBo (h:=by rw [hR,Bool.eq_iff_iff];simp [ee])
def Ex0 : Ex:=.mk 0 [] 0 0 0 Vl0
noncomputable def Pat.nodeE (p:Pat):Int:=open Classical in
 if p.op<0∨11≤p.op then 1
 else if (p.args.length:Int)<wE p.op∨vC p.op<p.args.length then 15
 else if (zD p.op=true∧(p.ty<0∨15<p.ty∨p.var<0∨15<p.var))∨(yD p.op=true∧(p.scope<0∨63<p.scope))∨(y8 p.op=true∧(p.span<0∨1099511627776<p.span)) then 2
 else if xO p.op=true∧p.cond.chk≠0 then p.cond.chk
 else if (xO p.op=false∧p.cond≠Ex0)∨(zD p.op=false∧(p.ty≠0∨p.var≠0))∨(yD p.op=false∧p.scope≠0)∨(y8 p.op=false∧p.span≠0) then 3
 else 0
theorem Ex0.enc_eq : Ex0.enc=.agg [int 0,.isl 8 [],int 0,int 0,int 0,int 0,int 0,str ⟨#[]⟩]:=by
 rw [Ex0,Ex.enc_mk,zk];rfl
theorem nil_ex0 : WkL 0 [.agg [int 0,.val (.slice none 0 0),int 0,int 0,int 0,int 0,int 0,str ⟨#[]⟩]] [Ex0.enc]:=by
 rw [Ex0.enc_eq]
 exact ⟨.agg' ⟨.refl _,.nilI 8,.refl _,.refl _,.refl _,.refl _,.refl _,.refl _,trivial⟩,trivial⟩
theorem P_check (p:Pat) (hs:p.Sm):PCall EE 154 [p.enc] (int p.nodeE):=by
 have hlen:p.args.length<1048576:=by obtain ⟨o,a,t,v,s,n,c⟩:=p;exact hs.len
 have hck:=P_expr_Check p.cond hs.cond'
 have hsm:PCall EE 174 [p.cond.enc,.agg [int 0,.val (.slice none 0 0),int 0,int 0,int 0,int 0,int 0,str ⟨#[]⟩]] (bool (eqB p.cond Ex0)):=(P_expr_Same p.cond Ex0 hs.cond').weak ⟨.refl _,nil_ex0⟩
 obtain ⟨sB,hsB⟩:∃ b,b=eqB p.cond Ex0:=⟨_,rfl⟩
 have hsB2:sB=true↔p.cond=Ex0:=by rw [hsB];exact eqB_iff
 rw [← hsB] at hsm
 have hcl:=Pat.closed p
 have hclc:=Ex.closed p.cond
 obtain ⟨R,hR⟩:∃ R,R=p.nodeE:=⟨_,rfl⟩
 rw [← hR]
 unfold Pat.nodeE at hR
 generalize p.cond.chk=ce at *
 have hrow:=@shape_row p.op
 generalize wE p.op=lo at *
 generalize vC p.op=mo at *
 generalize zD p.op=ty at *
 generalize xO p.op=cd at *
 generalize yD p.op=sc at *
 generalize y8 p.op=sp at *
 obtain ⟨b1,e1,w1⟩:∃ b,(b=true↔ty=false∨0≤p.ty∧p.ty≤15)∧PCall EE 173 [bool ty,int p.ty,int 15] (bool b):=⟨_,decide_eq_true_iff,P_within _ _ _⟩
 obtain ⟨b2,e2,w2⟩:∃ b,(b=true↔ty=false∨0≤p.var∧p.var≤15)∧PCall EE 173 [bool ty,int p.var,int 15] (bool b):=⟨_,decide_eq_true_iff,P_within _ _ _⟩
 obtain ⟨b3,e3,w3⟩:∃ b,(b=true↔sc=false∨0≤p.scope∧p.scope≤63)∧PCall EE 173 [bool sc,int p.scope,int 63] (bool b):=⟨_,decide_eq_true_iff,P_within _ _ _⟩
 obtain ⟨b4,e4,w4⟩:∃ b,(b=true↔sp=false∨0≤p.span∧p.span≤1099511627776)∧PCall EE 173 [bool sp,int p.span,int 1099511627776] (bool b):=⟨_,decide_eq_true_iff,P_within _ _ _⟩
 obtain ⟨u1,f1,v1⟩:∃ b,(b=true↔ty=true∨p.ty=0)∧PCall EE 175 [bool ty,int p.ty] (bool b):=⟨_,decide_eq_true_iff,P_unused _ _⟩
 obtain ⟨u2,f2,v2⟩:∃ b,(b=true↔ty=true∨p.var=0)∧PCall EE 175 [bool ty,int p.var] (bool b):=⟨_,decide_eq_true_iff,P_unused _ _⟩
 obtain ⟨u3,f3,v3⟩:∃ b,(b=true↔sc=true∨p.scope=0)∧PCall EE 175 [bool sc,int p.scope] (bool b):=⟨_,decide_eq_true_iff,P_unused _ _⟩
 obtain ⟨u4,f4,v4⟩:∃ b,(b=true↔sp=true∨p.span=0)∧PCall EE 175 [bool sp,int p.span] (bool b):=⟨_,decide_eq_true_iff,P_unused _ _⟩
 have hR1:(p.op<0∨11≤p.op)→R=1:=fun h=>by rw [hR,if_pos h]
 have hR15:¬(p.op<0∨11≤p.op)→((p.args.length:Int)<lo∨mo<p.args.length)→R=15:=fun h h2=>by rw [hR,if_neg h,if_pos h2]
 have hR2:¬(p.op<0∨11≤p.op)→¬((p.args.length:Int)<lo∨mo<p.args.length)→(b1=false∨b2=false∨b3=false∨b4=false)→R=2:=fun h h2 h3=>by
  rw [hR,if_neg h,if_neg h2,if_pos]
  clear hR hR1 hR15 hck hsm hrow w1 w2 w3 w4 v1 v2 v3 v4 f1 f2 f3 f4
  grind
 have hB:b1=true→b2=true→b3=true→b4=true→¬((ty=true∧(p.ty<0∨15<p.ty∨p.var<0∨15<p.var))∨(sc=true∧(p.scope<0∨63<p.scope))∨(sp=true∧(p.span<0∨1099511627776<p.span))):=fun q1 q2 q3 q4=>by
  clear hR hR1 hR15 hR2 hck hsm hrow w1 w2 w3 w4 v1 v2 v3 v4 f1 f2 f3 f4
  grind
 have hRc:¬(p.op<0∨11≤p.op)→¬((p.args.length:Int)<lo∨mo<p.args.length)→b1=true→b2=true→b3=true→b4=true→cd=true→ce≠0→R=ce:=fun h h2 q1 q2 q3 q4 h5 h6=>by
  rw [hR,if_neg h,if_neg h2,if_neg (hB q1 q2 q3 q4),if_pos ⟨h5,h6⟩]
 have hU:(cd=false∧sB=false∨u1=false∨u2=false∨u3=false∨u4=false)↔((cd=false∧p.cond≠Ex0)∨(ty=false∧(p.ty≠0∨p.var≠0))∨(sc=false∧p.scope≠0)∨(sp=false∧p.span≠0)):=by
  clear hR hR1 hR15 hR2 hRc hB hck hsm hrow w1 w2 w3 w4 v1 v2 v3 v4 e1 e2 e3 e4
  rw [Bool.eq_false_iff (b:=u1),Bool.eq_false_iff (b:=u2),Bool.eq_false_iff (b:=u3),Bool.eq_false_iff (b:=u4),Bool.eq_false_iff (b:=sB),ne_eq,ne_eq,ne_eq,ne_eq,ne_eq,f1,f2,f3,f4,hsB2]
  cases cd<;>cases ty<;>cases sc<;>cases sp<;>simp [or_assoc]
 have hR3:¬(p.op<0∨11≤p.op)→¬((p.args.length:Int)<lo∨mo<p.args.length)→b1=true→b2=true→b3=true→b4=true→(cd=true→ce=0)→(cd=false∧sB=false∨u1=false∨u2=false∨u3=false∨u4=false)→R=3:=fun h h2 q1 q2 q3 q4 h5 h6=>by
  rw [hR,if_neg h,if_neg h2,if_neg (hB q1 q2 q3 q4),if_neg (fun hh=>hh.2 (h5 hh.1)),if_pos (hU.1 h6)]
 have hR0:¬(p.op<0∨11≤p.op)→¬((p.args.length:Int)<lo∨mo<p.args.length)→b1=true→b2=true→b3=true→b4=true→(cd=true→ce=0)→¬(cd=false∧sB=false∨u1=false∨u2=false∨u3=false∨u4=false)→R=0:=fun h h2 q1 q2 q3 q4 h5 h6=>by
  rw [hR,if_neg h,if_neg h2,if_neg (hB q1 q2 q3 q4),if_neg (fun hh=>hh.2 (h5 hh.1)),if_neg (fun hh=>h6 (hU.2 hh))]
 clear hsB hs hR hB hU hsB2 e1 e2 e3 e4 f1 f2 f3 f4
 obtain ⟨pO,pA,pT,pV,pS,pN,pCo,pCa,pCv,pCf,pCk,pXk,pXn,pXt,hx,hxc,hpO,hpA,hpT,hpV,hpS,hpN⟩:=Pat.form2 p
 rw [hx] at hcl ⊢
 rw [hxc] at hck hsm hclc
 simp only [← hpO,← hpT,← hpV,← hpS,← hpN] at *
 refine zr ?_;unhygienic intros
 have hel:pA.length=p.args.length:=by rw [hpA,zq]
 generalize p.args.length=al at *
 clear hpA hx hxc hpO hpT hpV hpS hpN
 refine fB T154 [.t 2] ?_
 by_cases h0:pO<0∨11≤pO
 · have hR:=hR1 h0
   have hk:bOr (iLt pO 0) (iLe 11 pO)=true:=by simp only [ee];simpa using h0
   have fz:=hk
   refine Cq ?_
   refine Aq ?_
   exact fI (h:=hR.symm)
 have h1:0≤pO:=by omega
 have h2:pO<11:=by omega
 have k1:iLt pO 0=false:=by simp only [ee];simp;omega
 have k2:iLe 11 pO=false:=by simp only [ee];simp;omega
 have hrow:=hrow h1 h2
 have hR15:=hR15 h0
 have hR2:=hR2 h0
 have hRc:=hRc h0
 have hR3:=hR3 h0
 have hR0:=hR0 h0
 have hrw:rowA (Classical.choice wj).g pO 6=[int lo,int mo,bool ty,bool cd,bool sc,bool sp]:=by rw [e_rowA];exact hrow
 clear hrow hR1
 cases cd with
 | true =>
  have fz:=And.intro k1 (And.intro k2 hrw)
  refine Cq ?_
  refine oC (fun c1=>?_) fun c1=>?_
  ·
   simp [ee] at c1
  simp [ee] at c1
  refine Cq ?_
  refine oC (fun c2=>?_) fun c2=>?_
  ·
   simp [ee] at c2
   refine Aq ?_
   exact fI (h:=(hR15 (by omega)).symm)
  simp [ee] at c2
  refine Aq ?_
  refine oPA w1 ?_
  refine Cq ?_
  refine zj rfl rfl (fun c3=>?_) (fun c3=>?_)
  ·
   simp [ee] at c3
   refine Aq ?_
   refine zi rfl rfl ?_
   refine Aq ?_
   refine zi rfl rfl ?_
   refine Aq ?_
   refine zi rfl rfl ?_
   refine Aq ?_
   exact fI (h:=(hR2 (by omega) (by simp [*])).symm)
  simp [ee] at c3
  refine Aq ?_
  refine oPG w2 ?_
  refine Cq ?_
  refine zj rfl rfl (fun c4=>?_) (fun c4=>?_)
  ·
   simp [ee] at c4
   refine Aq ?_
   refine zi rfl rfl ?_
   refine Aq ?_
   refine zi rfl rfl ?_
   refine Aq ?_
   exact fI (h:=(hR2 (by omega) (by simp [*])).symm)
  simp [ee] at c4
  refine Aq ?_
  refine oPG w3 ?_
  refine Cq ?_
  refine zj rfl rfl (fun c5=>?_) (fun c5=>?_)
  ·
   simp [ee] at c5
   refine Aq ?_
   refine zi rfl rfl ?_
   refine Aq ?_
   exact fI (h:=(hR2 (by omega) (by simp [*])).symm)
  simp [ee] at c5
  refine Aq ?_
  refine oPG w4 ?_
  refine Cq ?_
  refine oC (fun c6=>?_) fun c6=>?_
  ·
   simp [ee] at c6
   refine Aq ?_
   exact fI (h:=(hR2 (by omega) (by simp [*])).symm)
  simp [ee] at c6
  refine Aq ?_
  refine oPA hck ?_
  refine Cq ?_
  refine oC (fun c7=>?_) fun c7=>?_
  ·
   simp [ee] at c7
   refine Aq ?_
   exact fI (h:=(hRc (by omega) (by assumption) (by assumption) (by assumption) (by assumption) rfl (by assumption)).symm)
  simp [ee] at c7
  refine Cq ?_
  refine zj rfl rfl (fun c8=>?_) (fun c8=>?_)
  ·
   simp [ee] at c8
  simp [ee] at c8
  refine Aq ?_
  refine zi rfl rfl ?_
  refine Aq ?_
  refine oPG v1 ?_
  refine Cq ?_
  refine zj rfl rfl (fun c9=>?_) (fun c9=>?_)
  ·
   simp [ee] at c9
   refine Aq ?_
   refine zi rfl rfl ?_
   refine Aq ?_
   refine zi rfl rfl ?_
   refine Aq ?_
   refine zi rfl rfl ?_
   refine Aq ?_
   exact fI (h:=(hR3 (by omega) (by assumption) (by assumption) (by assumption) (by assumption) (fun _=>by assumption) (by simp [*])).symm)
  simp [ee] at c9
  refine Aq ?_
  refine oPG v2 ?_
  refine Cq ?_
  refine zj rfl rfl (fun c10=>?_) (fun c10=>?_)
  ·
   simp [ee] at c10
   refine Aq ?_
   refine zi rfl rfl ?_
   refine Aq ?_
   refine zi rfl rfl ?_
   refine Aq ?_
   exact fI (h:=(hR3 (by omega) (by assumption) (by assumption) (by assumption) (by assumption) (fun _=>by assumption) (by simp [*])).symm)
  simp [ee] at c10
  refine Aq ?_
  refine oPG v3 ?_
  refine Cq ?_
  refine zj rfl rfl (fun c11=>?_) (fun c11=>?_)
  ·
   simp [ee] at c11
   refine Aq ?_
   refine zi rfl rfl ?_
   refine Aq ?_
   exact fI (h:=(hR3 (by omega) (by assumption) (by assumption) (by assumption) (by assumption) (fun _=>by assumption) (by simp [*])).symm)
  simp [ee] at c11
  refine Aq ?_
  refine oPG v4 ?_
  refine Cq ?_
  refine oC (fun c12=>?_) fun c12=>?_
  ·
   simp [ee] at c12
   refine Aq ?_
   exact fI (h:=(hR3 (by omega) (by assumption) (by assumption) (by assumption) (by assumption) (fun _=>by assumption) (by simp [*])).symm)
  simp [ee] at c12
  refine Aq ?_
  exact fI (h:=(hR0 (by omega) (by assumption) (by assumption) (by assumption) (by assumption) (fun _=>by assumption) (by simp [*])).symm)
 | false =>
  have fz:=And.intro k1 (And.intro k2 hrw)
  refine Cq ?_
  refine oC (fun c1=>?_) fun c1=>?_
  ·
   simp [ee] at c1
  simp [ee] at c1
  refine Cq ?_
  refine oC (fun c2=>?_) fun c2=>?_
  ·
   simp [ee] at c2
   refine Aq ?_
   exact fI (h:=(hR15 (by omega)).symm)
  simp [ee] at c2
  refine Aq ?_
  refine oPA w1 ?_
  refine Cq ?_
  refine zj rfl rfl (fun c3=>?_) (fun c3=>?_)
  ·
   simp [ee] at c3
   refine Aq ?_
   refine zi rfl rfl ?_
   refine Aq ?_
   refine zi rfl rfl ?_
   refine Aq ?_
   refine zi rfl rfl ?_
   refine Aq ?_
   exact fI (h:=(hR2 (by omega) (by simp [*])).symm)
  simp [ee] at c3
  refine Aq ?_
  refine oPG w2 ?_
  refine Cq ?_
  refine zj rfl rfl (fun c4=>?_) (fun c4=>?_)
  ·
   simp [ee] at c4
   refine Aq ?_
   refine zi rfl rfl ?_
   refine Aq ?_
   refine zi rfl rfl ?_
   refine Aq ?_
   exact fI (h:=(hR2 (by omega) (by simp [*])).symm)
  simp [ee] at c4
  refine Aq ?_
  refine oPG w3 ?_
  refine Cq ?_
  refine zj rfl rfl (fun c5=>?_) (fun c5=>?_)
  ·
   simp [ee] at c5
   refine Aq ?_
   refine zi rfl rfl ?_
   refine Aq ?_
   exact fI (h:=(hR2 (by omega) (by simp [*])).symm)
  simp [ee] at c5
  refine Aq ?_
  refine oPG w4 ?_
  refine Cq ?_
  refine oC (fun c6=>?_) fun c6=>?_
  ·
   simp [ee] at c6
   refine Aq ?_
   exact fI (h:=(hR2 (by omega) (by simp [*])).symm)
  simp [ee] at c6
  refine Cq ?_
  refine Cr ?_
  refine zj rfl rfl (fun c7=>?_) (fun c7=>?_)
  ·
   simp [ee] at c7
   refine Aq ?_
   refine oPG hsm ?_
   refine Cq ?_
   refine zj rfl rfl (fun c8=>?_) (fun c8=>?_)
   ·
    simp [ee] at c8
    refine Aq ?_
    refine zi rfl rfl ?_
    refine Aq ?_
    refine zi rfl rfl ?_
    refine Aq ?_
    refine zi rfl rfl ?_
    refine Aq ?_
    refine zi rfl rfl ?_
    refine Aq ?_
    exact fI (h:=(hR3 (by omega) (by assumption) (by assumption) (by assumption) (by assumption) (fun h=>by cases h) (by simp [*])).symm)
   simp [ee] at c8
   refine Aq ?_
   refine oPG v1 ?_
   refine Cq ?_
   refine zj rfl rfl (fun c9=>?_) (fun c9=>?_)
   ·
    simp [ee] at c9
    refine Aq ?_
    refine zi rfl rfl ?_
    refine Aq ?_
    refine zi rfl rfl ?_
    refine Aq ?_
    refine zi rfl rfl ?_
    refine Aq ?_
    exact fI (h:=(hR3 (by omega) (by assumption) (by assumption) (by assumption) (by assumption) (fun h=>by cases h) (by simp [*])).symm)
   simp [ee] at c9
   refine Aq ?_
   refine oPG v2 ?_
   refine Cq ?_
   refine zj rfl rfl (fun c10=>?_) (fun c10=>?_)
   ·
    simp [ee] at c10
    refine Aq ?_
    refine zi rfl rfl ?_
    refine Aq ?_
    refine zi rfl rfl ?_
    refine Aq ?_
    exact fI (h:=(hR3 (by omega) (by assumption) (by assumption) (by assumption) (by assumption) (fun h=>by cases h) (by simp [*])).symm)
   simp [ee] at c10
   refine Aq ?_
   refine oPG v3 ?_
   refine Cq ?_
   refine zj rfl rfl (fun c11=>?_) (fun c11=>?_)
   ·
    simp [ee] at c11
    refine Aq ?_
    refine zi rfl rfl ?_
    refine Aq ?_
    exact fI (h:=(hR3 (by omega) (by assumption) (by assumption) (by assumption) (by assumption) (fun h=>by cases h) (by simp [*])).symm)
   simp [ee] at c11
   refine Aq ?_
   refine oPG v4 ?_
   refine Cq ?_
   refine oC (fun c12=>?_) fun c12=>?_
   ·
    simp [ee] at c12
    refine Aq ?_
    exact fI (h:=(hR3 (by omega) (by assumption) (by assumption) (by assumption) (by assumption) (fun h=>by cases h) (by simp [*])).symm)
   simp [ee] at c12
   refine Aq ?_
   exact fI (h:=(hR0 (by omega) (by assumption) (by assumption) (by assumption) (by assumption) (fun h=>by cases h) (by simp [*])).symm)
  simp [ee] at c7
theorem firstE_zero {α:Type} {F:α→Int} {l:List α} (h:zm F l=0):∀ q∈l,F q=0:=by
 induction l with
 | nil=>intro q hq;cases hq
 | cons x r ih =>
  intro q hq
  rw [zm] at h
  by_cases hx:F x=0
  · rw [if_neg (by simpa using hx)] at h
    rcases List.mem_cons.1 hq with rfl | hq
    · exact hx
    exact ih h q hq
  rw [if_pos hx] at h;exact absurd h hx
theorem Ex.chk_nodes {e:Ex} (h:e.chk=0):∀ q∈e.nodes,q.nodeE=0:=by
 unfold Ex.chk at h
 split at h
 · cases h
 split at h
 · cases h
 exact firstE_zero h
theorem Ex0.form : Ex0.enc=.agg [int 0,.isl 8 [],int 0,int 0,int 0,int 0,int 0,str ⟨#[]⟩]:=by rw [Ex0,Ex.enc_mk,zk];rfl
theorem scopeF_or (o:Int):yD o=(decide (o=5∨o=9) || y8 o):=by unfold yD y8;rw [Bool.eq_iff_iff];simp;omega
theorem Pat.enc_c (o a t v s n) {c:Ex} {cs:List AV} (h:c.enc=.agg cs):(Pat.mk o a t v s n c).enc=.agg ([int o,.isl 14 (mapE Pat.enc a),int t,int v,int s,int n]++cs):=by
 obtain ⟨co,ca,cv,cf,ck,cx⟩:=c
 rw [Ex.enc_mk] at h
 injection h with h
 rw [Pat.enc_mk,← h];rfl
def markV (s:List Bool) (q:Ex):List Bool:=if vU q.op=true∧0≤q.var∧q.var<16 then s.set q.var.toNat true else s
end Go.Am
end
