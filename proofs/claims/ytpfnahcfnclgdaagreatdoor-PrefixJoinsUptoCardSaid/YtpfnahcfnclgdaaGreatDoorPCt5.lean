/- Contracts of the program's functions. -/
import Derived.Test.YtpfnahcfnclgdaaGreatDoorProg
import Derived.Test.YtpfnahcfnclgdaaGreatDoorPCt4
noncomputable section
set_option maxHeartbeats 16000000
set_option maxRecDepth 100000
namespace Go.Am
open Go.Proofs
def yP {α:Type} (f:α→Bool):List α→Int→Int
 | [],_=>-1
 | q :: r,i=>if f q=true then i else yP f r (i+1)
theorem uR {α:Type} (f:α→Bool):∀ (l:List α) (i:Int),0≤i→(0≤yP f l i↔l.any f=true)
 | [],i,_=>by simp [yP]
 | q :: r,i,h=>by
  rw [yP,List.any_cons]
  cases hq:f q with
  | true=>simp [h]
  | false =>
   rw [if_neg (by decide),uR f r (i+1) (by omega)]
   simp
theorem idxF_lt {α:Type} (f:α→Bool):∀ (l:List α) (i:Int),0≤i→yP f l i<i+l.length∧-1≤yP f l i
 | [],i,h=>by simp [yP];omega
 | q :: r,i,h=>by
  rw [yP]
  have:=idxF_lt f r (i+1) (by omega)
  simp only [List.length_cons]
  split<;>omega
theorem P_IndexFuncP (g:FuncId) (cs:List AV) (hcs:AV.closedL cs=true) (f:Pat→Bool) (l:List Pat) (hl:l.length<1048577) (hg:∀ x∈l,PCall EE g ([Pat.enc x]++cs) (bool (f x))):PCall EE 87 [.isl 14 (zy Pat.enc l),.fn g cs] (int (yP f l 0)):=by
 obtain ⟨j,hj⟩:∃ j,j=yP f l 0:=⟨_,rfl⟩
 rw [← hj]
 have hcl:=Pat.closedI l
 have hfn:(AV.fn g cs).closed=true:=by simp [AV.closed,hcs]
 have hcq:=fun (q:Pat) (h:q∈l)=>AV.closedL_mem (show AV.closedL (zy Pat.enc l)=true by simpa only [AV.closed] using hcl) (Pat.enc q) (by rw [zu];exact List.mem_map_of_mem h)
 refine zo ?_;unhygienic intros
 generalize hes:zy Pat.enc l=es at *
 have hel:es.length=l.length:=by rw [← hes,zp]
 refine fB T87 [.t 4] ?_
 refine Aq ?_
 refine ze (ι:=List Pat × List Pat × Int) (fun p=>([(8,int p.2.2),(7,int (lenA es)),(0,.isl 14 es),(1,.fn g cs)],[])) (fun p=>l=p.1++p.2.1∧p.2.2=p.1.length∧j=yP f p.2.1 p.2.2) (fun p=>p.2.1.length) ([],l,0) ⟨rfl,rfl,hj⟩ ?_ ?_
 · exact (eS [] [])
 rintro ⟨d,r,i⟩ ⟨g1,gi,gv⟩
 dsimp only at g1 gi gv ⊢
 cases r with
 | nil =>
  have L1:=lS g1
  have hc:iLt i (lenA es)=false:=xR e_iLt e_lenA (by omega)
  rw [yP] at gv
  have fz:=hc
  refine Cq ?_
  refine Aq ?_
  refine zk ?_
  refine Aq ?_
  exact fI (h:=gv.symm)
 | cons q r =>
  have L1:=lS g1
  have hc:iLt i (lenA es)=true:=xU e_iLt e_lenA (by omega)
  have hat:=yX e_atA hes g1 gi
  have hq:=hg q (by rw [g1];simp)
  have hqc:=hcq q (by rw [g1];simp)
  have hi2:iAdd .i64 i 1=((d++[q]).length:Int):=by rw [List.length_append];exact yh e_iAdd gi (by omega)
  rw [yP] at gv
  obtain ⟨qO,qA,qT,qV,qS,qN,qCo,qCa,qCv,qCf,qCk,qXk,qXn,qXt,hx⟩:=Pat.form q
  rw [hx] at hat hq hqc
  cases hfq:f q with
  | true =>
   rw [hfq] at hq gv
   rw [if_pos rfl] at gv
   have fz:=And.intro hc hat
   refine Cq ?_
   refine Cr ?_
   refine yK (args:=[.agg [int qO,.isl 14 qA,int qT,int qV,int qS,int qN,int qCo,.isl 8 qCa,int qCv,int qCf,int qCk,int qXk,int qXn,str qXt]]++cs) rfl rfl rfl rfl hq (by simp only [List.cons_append,List.nil_append,AV.closedL,hqc,hcs];rfl) ?_
   refine Cq ?_
   refine Aq ?_
   refine zf ?_
   refine Aq ?_
   exact fI (h:=gv.symm)
  | false =>
   rw [hfq] at hq gv
   rw [if_neg (by decide)] at gv
   have gv2:j=yP f r (iAdd .i64 i 1):=by rw [gv,hi2,gi];simp
   have fz:=And.intro hc hat
   refine Cq ?_
   refine Cr ?_
   refine yK (args:=[.agg [int qO,.isl 14 qA,int qT,int qV,int qS,int qN,int qCo,.isl 8 qCa,int qCv,int qCf,int qCk,int qXk,int qXn,str qXt]]++cs) rfl rfl rfl rfl hq (by simp only [List.cons_append,List.nil_append,AV.closedL,hqc,hcs];rfl) ?_
   refine Cq ?_
   refine Aq ?_
   refine zm (d++[q],r,iAdd .i64 i 1) ⟨by simp [g1],hi2,gv2⟩ (by simp) (eS [] [])
theorem P_IndexFuncB (g:FuncId) (cs:List AV) (hcs:AV.closedL cs=true) (f:Br→Bool) (l:List Br) (hl:l.length<1048577) (hg:∀ x∈l,PCall EE g ([Br.enc x]++cs) (bool (f x))):PCall EE 96 [.isl 11 (zy Br.enc l),.fn g cs] (int (yP f l 0)):=by
 obtain ⟨j,hj⟩:∃ j,j=yP f l 0:=⟨_,rfl⟩
 rw [← hj]
 have hcl:=Br.closedI l
 have hfn:(AV.fn g cs).closed=true:=by simp [AV.closed,hcs]
 have hcq:=fun (q:Br) (h:q∈l)=>AV.closedL_mem (show AV.closedL (zy Br.enc l)=true by simpa only [AV.closed] using hcl) (Br.enc q) (by rw [zu];exact List.mem_map_of_mem h)
 refine zo ?_;unhygienic intros
 generalize hes:zy Br.enc l=es at *
 have hel:es.length=l.length:=by rw [← hes,zp]
 refine fB T96 [.t 4] ?_
 refine Aq ?_
 refine ze (ι:=List Br × List Br × Int) (fun p=>([(8,int p.2.2),(7,int (lenA es)),(0,.isl 11 es),(1,.fn g cs)],[])) (fun p=>l=p.1++p.2.1∧p.2.2=p.1.length∧j=yP f p.2.1 p.2.2) (fun p=>p.2.1.length) ([],l,0) ⟨rfl,rfl,hj⟩ ?_ ?_
 · exact (eS [] [])
 rintro ⟨d,r,i⟩ ⟨g1,gi,gv⟩
 dsimp only at g1 gi gv ⊢
 cases r with
 | nil =>
  have L1:=lS g1
  have hc:iLt i (lenA es)=false:=xR e_iLt e_lenA (by omega)
  rw [yP] at gv
  have fz:=hc
  refine Cq ?_
  refine Aq ?_
  refine zk ?_
  refine Aq ?_
  exact fI (h:=gv.symm)
 | cons q r =>
  have L1:=lS g1
  have hc:iLt i (lenA es)=true:=xU e_iLt e_lenA (by omega)
  have hat:=yX e_atA hes g1 gi
  have hq:=hg q (by rw [g1];simp)
  have hqc:=hcq q (by rw [g1];simp)
  have hi2:iAdd .i64 i 1=((d++[q]).length:Int):=by rw [List.length_append];exact yh e_iAdd gi (by omega)
  rw [yP] at gv
  obtain ⟨co,ec,cv,cf,ck,xk,xn,xt,hx,hxc⟩:=Br.form q
  rw [hx] at hat hq hqc
  generalize zy Tl.enc q.queries=qq at *
  cases hfq:f q with
  | true =>
   rw [hfq] at hq gv
   rw [if_pos rfl] at gv
   have fz:=And.intro hc hat
   refine Cq ?_
   refine Cr ?_
   refine yK (args:=[.agg [int q.parent,int q.ty,int co,.isl 8 ec,int cv,int cf,int ck,int xk,int xn,str xt,.isl 4 qq]]++cs) rfl rfl rfl rfl hq (by simp only [List.cons_append,List.nil_append,AV.closedL,hqc,hcs];rfl) ?_
   refine Cq ?_
   refine Aq ?_
   refine zf ?_
   refine Aq ?_
   exact fI (h:=gv.symm)
  | false =>
   rw [hfq] at hq gv
   rw [if_neg (by decide)] at gv
   have gv2:j=yP f r (iAdd .i64 i 1):=by rw [gv,hi2,gi];simp
   have fz:=And.intro hc hat
   refine Cq ?_
   refine Cr ?_
   refine yK (args:=[.agg [int q.parent,int q.ty,int co,.isl 8 ec,int cv,int cf,int ck,int xk,int xn,str xt,.isl 4 qq]]++cs) rfl rfl rfl rfl hq (by simp only [List.cons_append,List.nil_append,AV.closedL,hqc,hcs];rfl) ?_
   refine Cq ?_
   refine Aq ?_
   refine zm (d++[q],r,iAdd .i64 i 1) ⟨by simp [g1],hi2,gv2⟩ (by simp) (eS [] [])
theorem P_IndexFuncG (g:FuncId) (cs:List AV) (hcs:AV.closedL cs=true) (f:Gd→Bool) (l:List Gd) (hl:l.length<1048577) (hg:∀ x∈l,PCall EE g ([Gd.enc x]++cs) (bool (f x))):PCall EE 150 [.isl 11 (zy Gd.enc l),.fn g cs] (int (yP f l 0)):=by
 obtain ⟨j,hj⟩:∃ j,j=yP f l 0:=⟨_,rfl⟩
 rw [← hj]
 have hcl:=Gd.closedI l
 have hfn:(AV.fn g cs).closed=true:=by simp [AV.closed,hcs]
 have hcq:=fun (q:Gd) (h:q∈l)=>AV.closedL_mem (show AV.closedL (zy Gd.enc l)=true by simpa only [AV.closed] using hcl) (Gd.enc q) (by rw [zu];exact List.mem_map_of_mem h)
 refine zo ?_;unhygienic intros
 generalize hes:zy Gd.enc l=es at *
 have hel:es.length=l.length:=by rw [← hes,zp]
 refine fB T150 [.t 4] ?_
 refine Aq ?_
 refine ze (ι:=List Gd × List Gd × Int) (fun p=>([(8,int p.2.2),(7,int (lenA es)),(0,.isl 11 es),(1,.fn g cs)],[])) (fun p=>l=p.1++p.2.1∧p.2.2=p.1.length∧j=yP f p.2.1 p.2.2) (fun p=>p.2.1.length) ([],l,0) ⟨rfl,rfl,hj⟩ ?_ ?_
 · exact (eS [] [])
 rintro ⟨d,r,i⟩ ⟨g1,gi,gv⟩
 dsimp only at g1 gi gv ⊢
 cases r with
 | nil =>
  have L1:=lS g1
  have hc:iLt i (lenA es)=false:=xR e_iLt e_lenA (by omega)
  rw [yP] at gv
  have fz:=hc
  refine Cq ?_
  refine Aq ?_
  refine zk ?_
  refine Aq ?_
  exact fI (h:=gv.symm)
 | cons q r =>
  have L1:=lS g1
  have hc:iLt i (lenA es)=true:=xU e_iLt e_lenA (by omega)
  have hat:=yX e_atA hes g1 gi
  have hq:=hg q (by rw [g1];simp)
  have hqc:=hcq q (by rw [g1];simp)
  have hi2:iAdd .i64 i 1=((d++[q]).length:Int):=by rw [List.length_append];exact yh e_iAdd gi (by omega)
  rw [yP] at gv
  obtain ⟨co,ec,cv,cf,ck,xk,xn,xt,hx,hxc⟩:=Gd.form q
  rw [hx] at hat hq hqc
  cases hfq:f q with
  | true =>
   rw [hfq] at hq gv
   rw [if_pos rfl] at gv
   have fz:=And.intro hc hat
   refine Cq ?_
   refine Cr ?_
   refine yK (args:=[.agg [int q.scope,int q.ty,int q.var,int co,.isl 8 ec,int cv,int cf,int ck,int xk,int xn,str xt]]++cs) rfl rfl rfl rfl hq (by simp only [List.cons_append,List.nil_append,AV.closedL,hqc,hcs];rfl) ?_
   refine Cq ?_
   refine Aq ?_
   refine zf ?_
   refine Aq ?_
   exact fI (h:=gv.symm)
  | false =>
   rw [hfq] at hq gv
   rw [if_neg (by decide)] at gv
   have gv2:j=yP f r (iAdd .i64 i 1):=by rw [gv,hi2,gi];simp
   have fz:=And.intro hc hat
   refine Cq ?_
   refine Cr ?_
   refine yK (args:=[.agg [int q.scope,int q.ty,int q.var,int co,.isl 8 ec,int cv,int cf,int ck,int xk,int xn,str xt]]++cs) rfl rfl rfl rfl hq (by simp only [List.cons_append,List.nil_append,AV.closedL,hqc,hcs];rfl) ?_
   refine Cq ?_
   refine Aq ?_
   refine zm (d++[q],r,iAdd .i64 i 1) ⟨by simp [g1],hi2,gv2⟩ (by simp) (eS [] [])
theorem P_ContainsFuncG (g:FuncId) (cs:List AV) (hcs:AV.closedL cs=true) (f:Gd→Bool) (l:List Gd) (hl:l.length<1048577) (hg:∀ x∈l,PCall EE g ([Gd.enc x]++cs) (bool (f x))):PCall EE 122 [.isl 11 (zy Gd.enc l),.fn g cs] (bool (l.any f)):=by
 have h1:=P_IndexFuncG g cs hcs f l hl hg
 have hj:=uR f l 0 (by omega)
 generalize yP f l 0=j at *
 have hcl:=Gd.closedI l
 have hfn:(AV.fn g cs).closed=true:=by simp [AV.closed,hcs]
 obtain ⟨R,hR⟩:∃ R,R=l.any f:=⟨_,rfl⟩
 rw [← hR] at hj ⊢
 refine zo ?_;unhygienic intros
 generalize zy Gd.enc l=es at *
 refine fB T122 [.t 4] ?_
 have hRe:iLe 0 j=R:=by simp only [ee];rw [Bool.eq_iff_iff];simp [hj]
 refine Aq ?_
 refine oPA h1 ?_
 refine Aq ?_
 exact fBo (h:=hRe)
theorem wv (l:List (Int × Int)):(AV.isl 2 (zy wy l)).closed=true:=yU limE_closed l
theorem P_IndexFuncL (g:FuncId) (cs:List AV) (hcs:AV.closedL cs=true) (f:(Int × Int)→Bool) (l:List (Int × Int)) (hl:l.length<1048577) (hg:∀ x∈l,PCall EE g ([wy x]++cs) (bool (f x))):PCall EE 152 [.isl 2 (zy wy l),.fn g cs] (int (yP f l 0)):=by
 obtain ⟨j,hj⟩:∃ j,j=yP f l 0:=⟨_,rfl⟩
 rw [← hj]
 have hcl:=wv l
 have hfn:(AV.fn g cs).closed=true:=by simp [AV.closed,hcs]
 have hcq:=fun (q:(Int × Int)) (h:q∈l)=>AV.closedL_mem (show AV.closedL (zy wy l)=true by simpa only [AV.closed] using hcl) (wy q) (by rw [zu];exact List.mem_map_of_mem h)
 refine zo ?_;unhygienic intros
 generalize hes:zy wy l=es at *
 have hel:es.length=l.length:=by rw [← hes,zp]
 refine fB T152 [.t 4] ?_
 refine Aq ?_
 refine ze (ι:=List (Int × Int) × List (Int × Int) × Int) (fun p=>([(8,int p.2.2),(7,int (lenA es)),(0,.isl 2 es),(1,.fn g cs)],[])) (fun p=>l=p.1++p.2.1∧p.2.2=p.1.length∧j=yP f p.2.1 p.2.2) (fun p=>p.2.1.length) ([],l,0) ⟨rfl,rfl,hj⟩ ?_ ?_
 · exact (eS [] [])
 rintro ⟨d,r,i⟩ ⟨g1,gi,gv⟩
 dsimp only at g1 gi gv ⊢
 cases r with
 | nil =>
  have L1:=lS g1
  have hc:iLt i (lenA es)=false:=xR e_iLt e_lenA (by omega)
  rw [yP] at gv
  have fz:=hc
  refine Cq ?_
  refine Aq ?_
  refine zk ?_
  refine Aq ?_
  exact fI (h:=gv.symm)
 | cons q r =>
  have L1:=lS g1
  have hc:iLt i (lenA es)=true:=xU e_iLt e_lenA (by omega)
  have hat:=yX e_atA hes g1 gi
  have hq:=hg q (by rw [g1];simp)
  have hqc:=hcq q (by rw [g1];simp)
  have hi2:iAdd .i64 i 1=((d++[q]).length:Int):=by rw [List.length_append];exact yh e_iAdd gi (by omega)
  rw [yP] at gv
  rw [limE_def] at hat hq hqc
  cases hfq:f q with
  | true =>
   rw [hfq] at hq gv
   rw [if_pos rfl] at gv
   have fz:=And.intro hc hat
   refine Cq ?_
   refine Cr ?_
   refine yK (args:=[.agg [int q.1,int q.2]]++cs) rfl rfl rfl rfl hq (by simp only [List.cons_append,List.nil_append,AV.closedL,hqc,hcs];rfl) ?_
   refine Cq ?_
   refine Aq ?_
   refine zf ?_
   refine Aq ?_
   exact fI (h:=gv.symm)
  | false =>
   rw [hfq] at hq gv
   rw [if_neg (by decide)] at gv
   have gv2:j=yP f r (iAdd .i64 i 1):=by rw [gv,hi2,gi];simp
   have fz:=And.intro hc hat
   refine Cq ?_
   refine Cr ?_
   refine yK (args:=[.agg [int q.1,int q.2]]++cs) rfl rfl rfl rfl hq (by simp only [List.cons_append,List.nil_append,AV.closedL,hqc,hcs];rfl) ?_
   refine Cq ?_
   refine Aq ?_
   refine zm (d++[q],r,iAdd .i64 i 1) ⟨by simp [g1],hi2,gv2⟩ (by simp) (eS [] [])
theorem P_ContainsFuncL (g:FuncId) (cs:List AV) (hcs:AV.closedL cs=true) (f:(Int × Int)→Bool) (l:List (Int × Int)) (hl:l.length<1048577) (hg:∀ x∈l,PCall EE g ([wy x]++cs) (bool (f x))):PCall EE 126 [.isl 2 (zy wy l),.fn g cs] (bool (l.any f)):=by
 have h1:=P_IndexFuncL g cs hcs f l hl hg
 have hj:=uR f l 0 (by omega)
 generalize yP f l 0=j at *
 have hcl:=wv l
 have hfn:(AV.fn g cs).closed=true:=by simp [AV.closed,hcs]
 obtain ⟨R,hR⟩:∃ R,R=l.any f:=⟨_,rfl⟩
 rw [← hR] at hj ⊢
 refine zo ?_;unhygienic intros
 generalize zy wy l=es at *
 refine fB T126 [.t 4] ?_
 have hRe:iLe 0 j=R:=by simp only [ee];rw [Bool.eq_iff_iff];simp [hj]
 refine Aq ?_
 refine oPA h1 ?_
 refine Aq ?_
 exact fBo (h:=hRe)
theorem P_IndexFuncE (g:FuncId) (cs:List AV) (hcs:AV.closedL cs=true) (f:Ed→Bool) (l:List Ed) (hl:l.length<1048577) (hg:∀ x∈l,PCall EE g ([Ed.enc x]++cs) (bool (f x))):PCall EE 190 [.isl 17 (zy Ed.enc l),.fn g cs] (int (yP f l 0)):=by
 obtain ⟨j,hj⟩:∃ j,j=yP f l 0:=⟨_,rfl⟩
 rw [← hj]
 have hcl:=Ed.closedI l
 have hfn:(AV.fn g cs).closed=true:=by simp [AV.closed,hcs]
 have hcq:=fun (q:Ed) (h:q∈l)=>AV.closedL_mem (show AV.closedL (zy Ed.enc l)=true by simpa only [AV.closed] using hcl) (Ed.enc q) (by rw [zu];exact List.mem_map_of_mem h)
 refine zo ?_;unhygienic intros
 generalize hes:zy Ed.enc l=es at *
 have hel:es.length=l.length:=by rw [← hes,zp]
 refine fB T190 [.t 4] ?_
 refine Aq ?_
 refine ze (ι:=List Ed × List Ed × Int) (fun p=>([(8,int p.2.2),(7,int (lenA es)),(0,.isl 17 es),(1,.fn g cs)],[])) (fun p=>l=p.1++p.2.1∧p.2.2=p.1.length∧j=yP f p.2.1 p.2.2) (fun p=>p.2.1.length) ([],l,0) ⟨rfl,rfl,hj⟩ ?_ ?_
 · exact (eS [] [])
 rintro ⟨d,r,i⟩ ⟨g1,gi,gv⟩
 dsimp only at g1 gi gv ⊢
 cases r with
 | nil =>
  have L1:=lS g1
  have hc:iLt i (lenA es)=false:=xR e_iLt e_lenA (by omega)
  rw [yP] at gv
  have fz:=hc
  refine Cq ?_
  refine Aq ?_
  refine zk ?_
  refine Aq ?_
  exact fI (h:=gv.symm)
 | cons q r =>
  have L1:=lS g1
  have hc:iLt i (lenA es)=true:=xU e_iLt e_lenA (by omega)
  have hat:=yX e_atA hes g1 gi
  have hq:=hg q (by rw [g1];simp)
  have hqc:=hcq q (by rw [g1];simp)
  have hi2:iAdd .i64 i 1=((d++[q]).length:Int):=by rw [List.length_append];exact yh e_iAdd gi (by omega)
  rw [yP] at gv
  obtain ⟨co,ec,cv,cf,ck,xk,xn,xt,hx,hxc⟩:=Ed.form q
  rw [hx] at hat hq hqc
  generalize zy int q.opens=e1 at *
  generalize zy int q.closes=e2 at *
  generalize zy Ex.enc q.checks=e3 at *
  generalize zy wy q.limits=e4 at *
  generalize zy int q.inside=e5 at *
  cases hfq:f q with
  | true =>
   rw [hfq] at hq gv
   rw [if_pos rfl] at gv
   have fz:=And.intro hc hat
   refine Cq ?_
   refine Cr ?_
   refine yK (args:=[.agg [int q.frm,int q.to,int q.var,int q.ty,int co,.isl 8 ec,int cv,int cf,int ck,int xk,int xn,str xt,.isl 1 e1,.isl 1 e2,.isl 8 e3,.isl 2 e4,.isl 1 e5]]++cs) rfl rfl rfl rfl hq (by simp only [List.cons_append,List.nil_append,AV.closedL,hqc,hcs];rfl) ?_
   refine Cq ?_
   refine Aq ?_
   refine zf ?_
   refine Aq ?_
   exact fI (h:=gv.symm)
  | false =>
   rw [hfq] at hq gv
   rw [if_neg (by decide)] at gv
   have gv2:j=yP f r (iAdd .i64 i 1):=by rw [gv,hi2,gi];simp
   have fz:=And.intro hc hat
   refine Cq ?_
   refine Cr ?_
   refine yK (args:=[.agg [int q.frm,int q.to,int q.var,int q.ty,int co,.isl 8 ec,int cv,int cf,int ck,int xk,int xn,str xt,.isl 1 e1,.isl 1 e2,.isl 8 e3,.isl 2 e4,.isl 1 e5]]++cs) rfl rfl rfl rfl hq (by simp only [List.cons_append,List.nil_append,AV.closedL,hqc,hcs];rfl) ?_
   refine Cq ?_
   refine Aq ?_
   refine zm (d++[q],r,iAdd .i64 i 1) ⟨by simp [g1],hi2,gv2⟩ (by simp) (eS [] [])
theorem P_ContainsFuncE (g:FuncId) (cs:List AV) (hcs:AV.closedL cs=true) (f:Ed→Bool) (l:List Ed) (hl:l.length<1048577) (hg:∀ x∈l,PCall EE g ([Ed.enc x]++cs) (bool (f x))):PCall EE 173 [.isl 17 (zy Ed.enc l),.fn g cs] (bool (l.any f)):=by
 have h1:=P_IndexFuncE g cs hcs f l hl hg
 have hj:=uR f l 0 (by omega)
 generalize yP f l 0=j at *
 have hcl:=Ed.closedI l
 have hfn:(AV.fn g cs).closed=true:=by simp [AV.closed,hcs]
 obtain ⟨R,hR⟩:∃ R,R=l.any f:=⟨_,rfl⟩
 rw [← hR] at hj ⊢
 refine zo ?_;unhygienic intros
 generalize zy Ed.enc l=es at *
 refine fB T173 [.t 4] ?_
 have hRe:iLe 0 j=R:=by simp only [ee];rw [Bool.eq_iff_iff];simp [hj]
 refine Aq ?_
 refine oPA h1 ?_
 refine Aq ?_
 exact fBo (h:=hRe)
theorem P_eqfE (f:FuncId) (a a2:List Ex) (hlen:a.length<1048576) (hih:∀ q∈a,∀ q2,PCall EE f [q.enc,q2.enc] (bool (eqB q q2))):PCall EE 191 [.isl 8 (zy Ex.enc a),.isl 8 (zy Ex.enc a2),.fn f []] (bool (eqB a a2)):=by
 have hcl:=Ex.closedI a
 have hcl2:=Ex.closedI a2
 obtain ⟨R,hR⟩:∃ R,R=eqB a a2:=⟨_,rfl⟩
 rw [← hR]
 refine zo ?_;unhygienic intros
 generalize hes:zy Ex.enc a=es at *
 generalize hes2:zy Ex.enc a2=es2 at *
 have hel:es.length=a.length:=by rw [← hes,zp]
 have hel2:es2.length=a2.length:=by rw [← hes2,zp]
 refine fB T191 [.t 6] ?_
 by_cases hl8:a.length=a2.length
 rotate_left
 · have hR:R=false:=by rw [hR];exact xl (fun h=>hl8 (by rw [h]))
   have hln:iNe (lenA es) (lenA es2)=true:=by simp only [ee];simp;omega
   have fz:=hln
   refine Cq ?_
   refine Aq ?_
   exact fBo (h:=hR.symm)
 have hln:iNe (lenA es) (lenA es2)=false:=by simp only [ee];simp;omega
 have fz:=hln
 refine Cq ?_
 refine Aq ?_
 refine ze (ι:=List Ex × List Ex × List Ex × List Ex × Int) (fun p=>([(17,int p.2.2.2.2),(16,int (lenA es)),(15,.isl 8 es),(1,.isl 8 es2),(2,.fn f [])],[])) (fun p=>a=p.1++p.2.1∧a2=p.2.2.1++p.2.2.2.1∧p.2.2.2.2=p.1.length∧p.1=p.2.2.1) (fun p=>p.2.1.length) ([],a,[],a2,0) ⟨rfl,rfl,rfl,rfl⟩ ?_ ?_
 · exact (eS [] [])
 rintro ⟨d,r,d2,r2,i⟩ ⟨g1,g2,gi,gd⟩
 dsimp only at g1 g2 gi gd ⊢
 subst gd
 cases r with
 | nil =>
  have L1:=lS g1
  have hc:iLt i (lenA es)=false:=xR e_iLt e_lenA (by omega)
  have L2:=lS g2
  have hr2:r2=[]:=List.length_eq_zero_iff.1 (by omega)
  have hR:R=true:=by rw [hR];exact xF (by rw [g1,g2,hr2])
  have fz:=hc
  refine Cq ?_
  refine Aq ?_
  refine zk ?_
  refine Aq ?_
  exact fBo (h:=hR.symm)
 | cons q r =>
  have L1:=lS g1
  have hc:iLt i (lenA es)=true:=xU e_iLt e_lenA (by omega)
  have hat:=yX e_atA hes g1 gi
  have L2:=lS g2
  cases r2 with
  | nil=>exfalso;simp at L2;omega
  | cons q2 r2 =>
   have hat2:=yX e_atA hes2 g2 gi
   have hq:=hih q (by rw [g1];simp) q2
   have hqc:=Ex.closed q
   have hqc2:=Ex.closed q2
   obtain ⟨qO,qA,qV,qF,qK,qXk,qXn,qXt,hx⟩:=Ex.form q
   obtain ⟨q2O,q2A,q2V,q2F,q2K,q2Xk,q2Xn,q2Xt,hx2⟩:=Ex.form q2
   rw [hx,hx2] at hq
   rw [hx] at hat hqc
   rw [hx2] at hat2 hqc2
   have hi2:iAdd .i64 i 1=((d++[q]).length:Int):=by rw [List.length_append];exact yh e_iAdd gi (by omega)
   by_cases hqq:q=q2
   · rw [xF hqq] at hq
     have hnt:bNot true=false:=by simp [ee]
     have fz:=And.intro hc (And.intro hat (And.intro hat2 hnt))
     refine Cq ?_
     refine Cr ?_
     refine yK (args:=[AV.agg [int qO,AV.isl 8 qA,int qV,int qF,int qK,int qXk,int qXn,str qXt],AV.agg [int q2O,AV.isl 8 q2A,int q2V,int q2F,int q2K,int q2Xk,int q2Xn,str q2Xt]]) rfl rfl rfl rfl hq (by simp [AV.closedL,hqc,hqc2]) ?_
     refine Cq ?_
     refine Aq ?_
     refine zm (d++[q],r,d++[q2],r2,iAdd .i64 i 1) ⟨by simp [g1],by simp [g2],hi2,by simp [hqq]⟩ (by simp) (eS [.gone,.gone] [])
   rw [xl hqq] at hq
   have hnf:bNot false=true:=by simp [ee]
   have hR:R=false:=by rw [hR];exact xl (by rw [g1,g2];simp [hqq])
   have fz:=And.intro hc (And.intro hat (And.intro hat2 hnf))
   refine Cq ?_
   refine Cr ?_
   refine yK (args:=[AV.agg [int qO,AV.isl 8 qA,int qV,int qF,int qK,int qXk,int qXn,str qXt],AV.agg [int q2O,AV.isl 8 q2A,int q2V,int q2F,int q2K,int q2Xk,int q2Xn,str q2Xt]]) rfl rfl rfl rfl hq (by simp [AV.closedL,hqc,hqc2]) ?_
   refine Cq ?_
   refine Aq ?_
   refine zf ?_
   refine Aq ?_
   exact fBo (h:=hR.symm)
theorem P_EqualI (a a2:List Int) (hlen:a.length<1048577):PCall EE 104 [.isl 1 (zy int a),.isl 1 (zy int a2)] (bool (eqB a a2)):=by
 have hcl:=zQ a
 have hcl2:=zQ a2
 obtain ⟨R,hR⟩:∃ R,R=eqB a a2:=⟨_,rfl⟩
 rw [← hR]
 refine zo ?_;unhygienic intros
 generalize hes:zy int a=es at *
 generalize hes2:zy int a2=es2 at *
 have hel:es.length=a.length:=by rw [← hes,zp]
 have hel2:es2.length=a2.length:=by rw [← hes2,zp]
 refine fB T104 [.t 4] ?_
 by_cases hl8:a.length=a2.length
 rotate_left
 · have hR:R=false:=by rw [hR];exact xl (fun h=>hl8 (by rw [h]))
   have hln:iNe (lenA es) (lenA es2)=true:=by simp only [ee];simp;omega
   have fz:=hln
   refine Cq ?_
   refine Aq ?_
   exact fBo (h:=hR.symm)
 have hln:iNe (lenA es) (lenA es2)=false:=by simp only [ee];simp;omega
 have fz:=hln
 refine Cq ?_
 refine Aq ?_
 refine ze (ι:=List Int × List Int × List Int × List Int × Int) (fun p=>([(13,int p.2.2.2.2),(12,int (lenA es)),(0,.isl 1 es),(1,.isl 1 es2)],[])) (fun p=>a=p.1++p.2.1∧a2=p.2.2.1++p.2.2.2.1∧p.2.2.2.2=p.1.length∧p.1=p.2.2.1) (fun p=>p.2.1.length) ([],a,[],a2,0) ⟨rfl,rfl,rfl,rfl⟩ ?_ ?_
 · exact (eS [] [])
 rintro ⟨d,r,d2,r2,i⟩ ⟨g1,g2,gi,gd⟩
 dsimp only at g1 g2 gi gd ⊢
 subst gd
 cases r with
 | nil =>
  have L1:=lS g1
  have hc:iLt i (lenA es)=false:=xR e_iLt e_lenA (by omega)
  have L2:=lS g2
  have hr2:r2=[]:=List.length_eq_zero_iff.1 (by omega)
  have hR:R=true:=by rw [hR];exact xF (by rw [g1,g2,hr2])
  have fz:=hc
  refine Cq ?_
  refine Aq ?_
  refine zk ?_
  refine Aq ?_
  exact fBo (h:=hR.symm)
 | cons q r =>
  have L1:=lS g1
  have hc:iLt i (lenA es)=true:=xU e_iLt e_lenA (by omega)
  have hat:=yX e_atA hes g1 gi
  have L2:=lS g2
  cases r2 with
  | nil=>exfalso;simp at L2;omega
  | cons q2 r2 =>
   have hat2:=yX e_atA hes2 g2 gi
   have hi2:iAdd .i64 i 1=((d++[q]).length:Int):=by rw [List.length_append];exact yh e_iAdd gi (by omega)
   by_cases hqq:q=q2
   · have kn:iNe q q2=false:=by simp only [ee];simp [hqq]
     have fz:=And.intro hc (And.intro hat (And.intro hat2 kn))
     refine Cq ?_
     refine Cr ?_
     have fz:=kn
     refine goC 60 ?_
     refine zm (d++[q],r,d++[q2],r2,iAdd .i64 i 1) ⟨by simp [g1],by simp [g2],hi2,by simp [hqq]⟩ (by simp) (eS [] [])
   have kn:iNe q q2=true:=by simp only [ee];simp [hqq]
   have hR:R=false:=by rw [hR];exact xl (by rw [g1,g2];simp [hqq])
   have fz:=And.intro hc (And.intro hat (And.intro hat2 kn))
   refine Cq ?_
   refine Cr ?_
   have fz:=kn
   refine goC 60 ?_
   refine zf ?_
   refine Aq ?_
   exact fBo (h:=hR.symm)
theorem P_EqualL (a a2:List (Int × Int)) (hlen:a.length<1048577):PCall EE 192 [.isl 2 (zy wy a),.isl 2 (zy wy a2)] (bool (eqB a a2)):=by
 have hcl:=wv a
 have hcl2:=wv a2
 obtain ⟨R,hR⟩:∃ R,R=eqB a a2:=⟨_,rfl⟩
 rw [← hR]
 refine zo ?_;unhygienic intros
 generalize hes:zy wy a=es at *
 generalize hes2:zy wy a2=es2 at *
 have hel:es.length=a.length:=by rw [← hes,zp]
 have hel2:es2.length=a2.length:=by rw [← hes2,zp]
 refine fB T192 [.t 4] ?_
 by_cases hl8:a.length=a2.length
 rotate_left
 · have hR:R=false:=by rw [hR];exact xl (fun h=>hl8 (by rw [h]))
   have hln:iNe (lenA es) (lenA es2)=true:=by simp only [ee];simp;omega
   have fz:=hln
   refine Cq ?_
   refine Aq ?_
   exact fBo (h:=hR.symm)
 have hln:iNe (lenA es) (lenA es2)=false:=by simp only [ee];simp;omega
 have fz:=hln
 refine Cq ?_
 refine Aq ?_
 refine ze (ι:=List (Int × Int) × List (Int × Int) × List (Int × Int) × List (Int × Int) × Int) (fun p=>([(13,int p.2.2.2.2),(12,int (lenA es)),(0,.isl 2 es),(1,.isl 2 es2)],[])) (fun p=>a=p.1++p.2.1∧a2=p.2.2.1++p.2.2.2.1∧p.2.2.2.2=p.1.length∧p.1=p.2.2.1) (fun p=>p.2.1.length) ([],a,[],a2,0) ⟨rfl,rfl,rfl,rfl⟩ ?_ ?_
 · exact (eS [] [])
 rintro ⟨d,r,d2,r2,i⟩ ⟨g1,g2,gi,gd⟩
 dsimp only at g1 g2 gi gd ⊢
 subst gd
 cases r with
 | nil =>
  have L1:=lS g1
  have hc:iLt i (lenA es)=false:=xR e_iLt e_lenA (by omega)
  have L2:=lS g2
  have hr2:r2=[]:=List.length_eq_zero_iff.1 (by omega)
  have hR:R=true:=by rw [hR];exact xF (by rw [g1,g2,hr2])
  have fz:=hc
  refine Cq ?_
  refine Aq ?_
  refine zk ?_
  refine Aq ?_
  exact fBo (h:=hR.symm)
 | cons q r =>
  have L1:=lS g1
  have hc:iLt i (lenA es)=true:=xU e_iLt e_lenA (by omega)
  have hat:=yX e_atA hes g1 gi
  have L2:=lS g2
  cases r2 with
  | nil=>exfalso;simp at L2;omega
  | cons q2 r2 =>
   have hat2:=yX e_atA hes2 g2 gi
   have hi2:iAdd .i64 i 1=((d++[q]).length:Int):=by rw [List.length_append];exact yh e_iAdd gi (by omega)
   rw [limE_def] at hat hat2
   obtain ⟨x,y⟩:=q
   obtain ⟨x2,y2⟩:=q2
   dsimp only at hat hat2
   have fz:=And.intro hc (And.intro hat hat2)
   refine Cq ?_
   refine Cr ?_
   by_cases hqq:x=x2∧y=y2
   · have kn:bNot (bAnd (iEq x x2) (bAnd (iEq y y2) true))=false:=by simp only [ee];simp [hqq.1,hqq.2]
     obtain ⟨rfl,rfl⟩:=hqq
     have fz:=kn
     refine Cq ?_
     refine goC 60 ?_
     refine zm (d++[(x,y)],r,d++[(x,y)],r2,iAdd .i64 i 1) ⟨by simp [g1],by simp [g2],hi2,rfl⟩ (by simp) (eS [] [])
   have kn:bNot (bAnd (iEq x x2) (bAnd (iEq y y2) true))=true:=by
    simp only [ee]
    simp only [Bool.and_true,Bool.not_eq_true',Bool.and_eq_false_iff,beq_eq_false_iff_ne]
    by_cases h1:x=x2
    · exact .inr fun h2=>hqq ⟨h1,h2⟩
    exact .inl h1
   have hR:R=false:=by rw [hR];exact xl (by rw [g1,g2];intro h;simp at h;exact hqq h.1)
   have fz:=kn
   refine Cq ?_
   refine goC 60 ?_
   refine zf ?_
   refine Aq ?_
   exact fBo (h:=hR.symm)
theorem P_eqf (f:FuncId) (a a2:List Pat) (hlen:a.length<1048576) (hih:∀ q∈a,∀ q2,PCall EE f [q.enc,q2.enc] (bool (eqB q q2))):PCall EE 163 [.isl 14 (zy Pat.enc a),.isl 14 (zy Pat.enc a2),.fn f []] (bool (eqB a a2)):=by
 have hcl:=Pat.closedI a
 have hcl2:=Pat.closedI a2
 obtain ⟨R,hR⟩:∃ R,R=eqB a a2:=⟨_,rfl⟩
 rw [← hR]
 refine zo ?_;unhygienic intros
 generalize hes:zy Pat.enc a=es at *
 generalize hes2:zy Pat.enc a2=es2 at *
 have hel:es.length=a.length:=by rw [← hes,zp]
 have hel2:es2.length=a2.length:=by rw [← hes2,zp]
 refine fB T163 [.t 6] ?_
 by_cases hl8:a.length=a2.length
 rotate_left
 · have hR:R=false:=by rw [hR];exact xl (fun h=>hl8 (by rw [h]))
   have hln:iNe (lenA es) (lenA es2)=true:=by simp only [ee];simp;omega
   have fz:=hln
   refine Cq ?_
   refine Aq ?_
   exact fBo (h:=hR.symm)
 have hln:iNe (lenA es) (lenA es2)=false:=by simp only [ee];simp;omega
 have fz:=hln
 refine Cq ?_
 refine Aq ?_
 refine ze (ι:=List Pat × List Pat × List Pat × List Pat × Int) (fun p=>([(17,int p.2.2.2.2),(16,int (lenA es)),(15,.isl 14 es),(1,.isl 14 es2),(2,.fn f [])],[])) (fun p=>a=p.1++p.2.1∧a2=p.2.2.1++p.2.2.2.1∧p.2.2.2.2=p.1.length∧p.1=p.2.2.1) (fun p=>p.2.1.length) ([],a,[],a2,0) ⟨rfl,rfl,rfl,rfl⟩ ?_ ?_
 · exact (eS [] [])
 rintro ⟨d,r,d2,r2,i⟩ ⟨g1,g2,gi,gd⟩
 dsimp only at g1 g2 gi gd ⊢
 subst gd
 cases r with
 | nil =>
  have L1:=lS g1
  have hc:iLt i (lenA es)=false:=xR e_iLt e_lenA (by omega)
  have L2:=lS g2
  have hr2:r2=[]:=List.length_eq_zero_iff.1 (by omega)
  have hR:R=true:=by rw [hR];exact xF (by rw [g1,g2,hr2])
  have fz:=hc
  refine Cq ?_
  refine Aq ?_
  refine zk ?_
  refine Aq ?_
  exact fBo (h:=hR.symm)
 | cons q r =>
  have L1:=lS g1
  have hc:iLt i (lenA es)=true:=xU e_iLt e_lenA (by omega)
  have hat:=yX e_atA hes g1 gi
  have L2:=lS g2
  cases r2 with
  | nil=>exfalso;simp at L2;omega
  | cons q2 r2 =>
   have hat2:=yX e_atA hes2 g2 gi
   have hq:=hih q (by rw [g1];simp) q2
   have hqc:=Pat.closed q
   have hqc2:=Pat.closed q2
   obtain ⟨qO,qA,qT,qV,qS,qN,qCo,qCa,qCv,qCf,qCk,qXk,qXn,qXt,hx⟩:=Pat.form q
   obtain ⟨q2O,q2A,q2T,q2V,q2S,q2N,q2Co,q2Ca,q2Cv,q2Cf,q2Ck,q2Xk,q2Xn,q2Xt,hx2⟩:=Pat.form q2
   rw [hx,hx2] at hq
   rw [hx] at hat hqc
   rw [hx2] at hat2 hqc2
   have hi2:iAdd .i64 i 1=((d++[q]).length:Int):=by rw [List.length_append];exact yh e_iAdd gi (by omega)
   by_cases hqq:q=q2
   · rw [xF hqq] at hq
     have hnt:bNot true=false:=by simp [ee]
     have fz:=And.intro hc (And.intro hat (And.intro hat2 hnt))
     refine Cq ?_
     refine Cr ?_
     refine yK (args:=[AV.agg [int qO,AV.isl 14 qA,int qT,int qV,int qS,int qN,int qCo,AV.isl 8 qCa,int qCv,int qCf,int qCk,int qXk,int qXn,str qXt],AV.agg [int q2O,AV.isl 14 q2A,int q2T,int q2V,int q2S,int q2N,int q2Co,AV.isl 8 q2Ca,int q2Cv,int q2Cf,int q2Ck,int q2Xk,int q2Xn,str q2Xt]]) rfl rfl rfl rfl hq (by simp [AV.closedL,hqc,hqc2]) ?_
     refine Cq ?_
     refine Aq ?_
     refine zm (d++[q],r,d++[q2],r2,iAdd .i64 i 1) ⟨by simp [g1],by simp [g2],hi2,by simp [hqq]⟩ (by simp) (eS [.gone,.gone] [])
   rw [xl hqq] at hq
   have hnf:bNot false=true:=by simp [ee]
   have hR:R=false:=by rw [hR];exact xl (by rw [g1,g2];simp [hqq])
   have fz:=And.intro hc (And.intro hat (And.intro hat2 hnf))
   refine Cq ?_
   refine Cr ?_
   refine yK (args:=[AV.agg [int qO,AV.isl 14 qA,int qT,int qV,int qS,int qN,int qCo,AV.isl 8 qCa,int qCv,int qCf,int qCk,int qXk,int qXn,str qXt],AV.agg [int q2O,AV.isl 14 q2A,int q2T,int q2V,int q2S,int q2N,int q2Co,AV.isl 8 q2Ca,int q2Cv,int q2Cf,int q2Ck,int q2Xk,int q2Xn,str q2Xt]]) rfl rfl rfl rfl hq (by simp [AV.closedL,hqc,hqc2]) ?_
   refine Cq ?_
   refine Aq ?_
   refine zf ?_
   refine Aq ?_
   exact fBo (h:=hR.symm)
theorem P_pattern_Same : ∀ x y:Pat,x.Sm→PCall EE 136 [x.enc,y.enc] (bool (eqB x y)):=by
 refine Pat.ind ?_
 intro o a t v s n c ih y hs
 obtain ⟨o2,a2,t2,v2,s2,n2,c2⟩:=y
 have hlen:=hs.len
 have hih:∀ q∈a,∀ q2,PCall EE 136 [q.enc,q2.enc] (bool (eqB q q2)):=fun q hq q2=>ih q hq q2 (hs.arg hq)
 have hcs:=wi c c2 hs.cond
 have hcl:=Pat.closedI a
 have hcl2:=Pat.closedI a2
 have hcc:=Ex.closed c
 have hcc2:=Ex.closed c2
 obtain ⟨R,hR⟩:∃ R,R=eqB (Pat.mk o a t v s n c) (Pat.mk o2 a2 t2 v2 s2 n2 c2):=⟨_,rfl⟩
 have hRe:o=o2→t=t2→v=v2→s=s2→n=n2→c=c2→R=eqB a a2:=by
  rintro rfl rfl rfl rfl rfl rfl
  rw [hR]
  by_cases h:a=a2
  · rw [h,xF rfl,xF rfl]
  rw [xl h,xl (by simp [h])]
 have hRf:¬(o=o2∧t=t2∧v=v2∧s=s2∧n=n2∧c=c2∧a.length=a2.length)→R=false:=by
  intro h;rw [hR];refine xl fun h2=>h ?_
  simp only [Pat.mk.injEq] at h2
  obtain ⟨rfl,rfl,rfl,rfl,rfl,rfl,rfl⟩:=h2
  simp
 obtain ⟨B,hB⟩:∃ B,B=eqB c c2:=⟨_,rfl⟩
 have hB1:B=true→c=c2:=fun h=>eqB_iff.1 (hB ▸ h)
 have hB2:B=false→c≠c2:=fun h hc=>by rw [hB,xF hc] at h;cases h
 rw [← hB] at hcs
 rw [← hR]
 obtain ⟨cCo,cC,cv,cf,ck,cxk,cxn,cxt⟩:=c
 obtain ⟨dCo,dC,dv,df,dk,dxk,dxn,dxt⟩:=c2
 rw [Pat.enc_mk,Pat.enc_mk]
 rw [Ex.enc_mk] at hcc hcc2 hcs
 rw [Ex.enc_mk] at hcs
 dsimp only at hcc hcc2 hcs ⊢
 have hcC:=Ex.closedI cC
 have hcD:=Ex.closedI dC
 clear ih hs hR hB
 have hef:=P_eqf 136 a a2 hlen hih
 have hcL:=Pat.closedL a
 have hcL2:=Pat.closedL a2
 refine zo ?_;unhygienic intros
 generalize zy Ex.enc cC=cC' at *
 generalize zy Ex.enc dC=dC' at *
 generalize hes:zy Pat.enc a=es at *
 generalize hes2:zy Pat.enc a2=es2 at *
 have hel:es.length=a.length:=by rw [← hes,zp]
 have hel2:es2.length=a2.length:=by rw [← hes2,zp]
 have hor:∀ b,bOr false b=b:=by simp [ee]
 have hor2:∀ b,bOr b false=b:=by simp [ee]
 have hort:∀ b,bOr true b=true:=by simp [ee]
 have hne:∀ z,iNe z z=false:=by simp [ee]
 have hnt:bNot true=false:=by simp [ee]
 have hnf:bNot false=true:=by simp [ee]
 refine fB T136 [.t 4] ?_
 by_cases hd:o=o2∧t=t2∧v=v2∧s=s2∧n=n2
 rotate_left
 · have hR:R=false:=hRf (fun h=>hd ⟨h.1,h.2.1,h.2.2.1,h.2.2.2.1,h.2.2.2.2.1⟩)
   have hbig:bOr (bOr (bOr (bOr (iNe o o2) (iNe t t2)) (iNe v v2)) (iNe s s2)) (iNe n n2)=true:=by
    simp only [ee]
    simp only [Bool.or_eq_true,bne_iff_ne,ne_eq]
    by_cases h1:o=o2<;>by_cases h2:t=t2<;>by_cases h3:v=v2<;>by_cases h4:s=s2<;>by_cases h5:n=n2<;>simp_all
   have fz:=And.intro hbig (And.intro hor hort)
   refine Cq ?_
   refine Aq ?_
   refine zZ rfl rfl ?_
   refine Aq ?_
   exact fBo (h:=hR.symm)
 obtain ⟨rfl,rfl,rfl,rfl,rfl⟩:=hd
 cases B with
 | false =>
  have hR:R=false:=hRf (fun h=>hB2 rfl h.2.2.2.2.2.1)
  have fz:=And.intro hne (And.intro hor (And.intro hort hnf))
  refine Cq ?_
  refine Aq ?_
  refine oPG hcs ?_
  refine Cq ?_
  refine Aq ?_
  exact fBo (h:=hR.symm)
 | true =>
 have hRe:=hRe rfl rfl rfl rfl rfl (hB1 rfl)
 rw [hRe]
 generalize eqB a a2=R2 at hef
 have fz:=And.intro hne (And.intro hor (And.intro hort hnt))
 refine Cq ?_
 refine Aq ?_
 refine oPG hcs ?_
 refine Cq ?_
 refine Aq ?_
 refine oPA hef ?_
 refine Aq ?_
 exact fV
theorem P_branches (p:Pat):PCall EE 187 [p.enc] (.fn 198 [.iptr p.enc.cells]):=by
 have hcl:=Pat.closed p
 obtain ⟨pO,pA,pT,pV,pS,pN,pCo,pCa,pCv,pCf,pCk,pXk,pXn,pXt,hx⟩:=Pat.form p
 rw [hx] at hcl ⊢
 clear hx
 dsimp only [AV.cells]
 refine zo ?_;unhygienic intros
 refine fB T187 [.t 2] ?_
 refine Aq ?_
 refine zP rfl rfl ?_
 exact ⟨[.icells [int pO,.isl 14 pA,int pT,int pV,int pS,int pN,int pCo,.isl 8 pCa,int pCv,int pCf,int pCk,int pXk,int pXn,str pXt]],⟨⟨_,rfl,(zw _ hcl).symm⟩,trivial⟩,.refl _⟩
theorem P_repeated (p q:Pat):PCall EE 188 [p.enc,q.enc] (.fn 201 [.iptr p.enc.cells,.iptr q.enc.cells]):=by
 have hcl:=Pat.closed p
 have kcl:=Pat.closed q
 obtain ⟨pO,pA,pT,pV,pS,pN,pCo,pCa,pCv,pCf,pCk,pXk,pXn,pXt,hx⟩:=Pat.form p
 obtain ⟨qO,qA,qT,qV,qS,qN,qCo,qCa,qCv,qCf,qCk,qXk,qXn,qXt,hy⟩:=Pat.form q
 rw [hx] at hcl ⊢
 rw [hy] at kcl ⊢
 clear hx hy
 dsimp only [AV.cells]
 refine zo ?_;unhygienic intros
 refine fB T188 [.t 4] ?_
 refine Aq ?_
 refine zP rfl rfl ?_
 exact ⟨[.icells [int pO,.isl 14 pA,int pT,int pV,int pS,int pN,int pCo,.isl 8 pCa,int pCv,int pCf,int pCk,int pXk,int pXn,str pXt],.icells [int qO,.isl 14 qA,int qT,int qV,int qS,int qN,int qCo,.isl 8 qCa,int qCv,int qCf,int qCk,int qXk,int qXn,str qXt]],⟨⟨_,rfl,(zw _ hcl).symm⟩,⟨_,rfl,(zw _ kcl).symm⟩,trivial⟩,.refl _⟩
def PjnT : Prop:=∀ (args:List Pat) (i:Nat) (r:Option Pat),i<args.length→args.length<900000→PCall EE 200 [.isl 14 (zy Pat.enc args),int i,wR r] (wR (tC args i r))
def brR (p:Pat) (i:Nat) (q:Pat):List (Ed × Option Pat) :=
 if p.op=1 then (if i=0 then q.outs.map fun y=>(y.1,uj y.2 (p.args.drop 1)) else [])
 else if p.op=3 then q.outs.map fun y=>(y.1,tC p.args i y.2) else q.outs
def brL (p:Pat):Nat→List Pat→List (Ed × Option Pat)
 | _,[]=>[]
 | i,q :: r=>brR p i q++brL p (i+1) r
theorem brL_app (p:Pat):∀ (a b:List Pat) (i:Nat),brL p i (a++b)=brL p i a++brL p (i+a.length) b
 | [],b,i=>rfl
 | q :: a,b,i=>by
  rw [List.cons_append,brL,brL,brL_app p a b (i+1),List.append_assoc,List.length_cons,show i+(a.length+1)=i+1+a.length by omega]
theorem brL_one (p:Pat) (h:p.op=1):∀ (l:List Pat) (i:Nat),brL p (i+1) l=[]
 | [],i=>rfl
 | q :: l,i=>by rw [brL,brL_one p h l (i+1),brR,if_pos h,if_neg (by omega)];rfl
theorem brL_two (p:Pat) (h:p.op=2):∀ (l:List Pat) (i:Nat),brL p i l=(l.map Pat.outs).flatten
 | [],i=>rfl
 | q :: l,i=>by rw [brL,brL_two p h l (i+1),brR,if_neg (by omega),if_neg (by omega)];rfl
theorem brL_three (p:Pat) (h:p.op=3):∀ (l:List Pat) (i:Nat),brL p i l=s6 p.args i (l.map Pat.outs)
 | [],i=>rfl
 | q :: l,i=>by rw [brL,brL_three p h l (i+1),brR,if_neg (by omega),if_pos h];rfl
theorem brL_outs (p:Pat) (h:p.op=1∨p.op=2∨p.op=3):p.outs=brL p 0 p.args:=by
 rw [Pat.outs_eq,tD]
 rcases h with h | h | h
 · rw [if_neg (by omega),if_pos h]
   cases hpa:p.args with
   | nil=>rfl
   | cons q r=>rw [brL,brL_one p h,brR,if_pos h,if_pos rfl,List.append_nil,hpa];rfl
 · rw [if_neg (by omega),if_neg (by omega),if_pos h,brL_two p h]
 rw [if_neg (by omega),if_neg (by omega),if_neg (by omega),if_pos h,brL_three p h]
theorem brL_at (p:Pat) (h:p.op=1∨p.op=2∨p.op=3) {d r:List Pat} {q:Pat} (g:p.args=d++q :: r) {j:Nat} {y:Ed × Option Pat} (hy:(brR p d.length q)[j]? = some y):(p.outs.map wM)[(brL p 0 d).length+j]? = some (wM y):=by
 rw [List.getElem?_map,brL_outs p h,g,brL_app,brL,Nat.zero_add,List.getElem?_append_right (by omega),Nat.add_sub_cancel_left,List.getElem?_append_left (List.getElem?_eq_some_iff.1 hy).1,hy]
 rfl
theorem v8 (z:Option Pat):∃ b zO zA zT zV zS zN zCo zCa zCv zCf zCk zXk zXn zXt,wR z=.agg [bool b,int zO,.isl 14 zA,int zT,int zV,int zS,int zN,int zCo,.isl 8 zCa,int zCv,int zCf,int zCk,int zXk,int zXn,str zXt]∧b=z.isNone:=by
 cases z with
 | none=>exact ⟨_,_,_,_,_,_,_,_,_,_,_,_,_,_,_,uu,rfl⟩
 | some q =>
  obtain ⟨qO,qA,qT,qV,qS,qN,qCo,qCa,qCv,qCf,qCk,qXk,qXn,qXt,hq⟩:=Pat.form q
  exact ⟨_,_,_,_,_,_,_,_,_,_,_,_,_,_,_,(by rw [wR,hq];rfl),rfl⟩
theorem enters_derivative_branches_1 : xu EE.P 198:=enters_of rfl (by decide) T198.2
theorem X_branches (t:Pat) (pjn:t.op=3→PjnT) (h:t.op=1∨t.op=2∨t.op=3) (hl:t.args.length<900000) (ha:∀ q∈t.args,∃ g cs,AV.closedL cs=true∧PCall EE 172 [q.enc] (.fn g cs)∧XCall EE.P EE.G g cs (q.outs.map wM)) :
 XCall EE.P EE.G 198 [.iptr t.enc.cells] (t.outs.map wM):=by
 refine ⟨enters_derivative_branches_1,fun X hS blk hy=>?_⟩
 have ho:=brL_outs t h
 have hat:=@brL_at t h
 have hcl:=Pat.closed t
 have hol:(t.outs.map wM).length=(brL t 0 t.args).length:=by rw [List.length_map,ho]
 rw [hol]
 obtain ⟨pO,pA,pT,pV,pS,pN,pCo,pCa,pCv,pCf,pCk,pXk,pXn,pXt,hx,hxc,hpO,hpA,hpT,hpV,hpS,hpN⟩:=Pat.form2 t
 have hpl:pA.length=t.args.length:=by rw [hpA,zp]
 rw [hx] at hcl ⊢
 dsimp only [AV.cells]
 refine zo ?_;unhygienic intros
 refine rB T198 [] ?_
 refine Aq ?_
 generalize hargs:t.args=pa at *
 refine ze (ι:=List Pat × List Pat × Int × Nat) (fun p=>([(10,int p.2.2.1),(9,int (lenA pA)),(8,.isl 14 pA),(2,.ptr 1 0),(1,.iptr [int pO,.isl 14 pA,int pT,int pV,int pS,int pN,int pCo,.isl 8 pCa,int pCv,int pCf,int pCk,int pXk,int pXn,str pXt])],[.ext p.2.2.2 false,.cells [yv blk]])) (fun p=>pa=p.1++p.2.1∧p.2.2.1=p.1.length∧p.2.2.2=(brL t 0 p.1).length) (fun p=>p.2.1.length) ([],pa,0,0) ⟨rfl,rfl,rfl⟩ ?_ ?_
 · exact yz ⟨.refl _,.refl _,.refl _,.refl _,.refl _,trivial⟩
 rintro ⟨d,r,i,c⟩ ⟨g1,gi,gc⟩
 dsimp only at g1 gi gc ⊢
 cases r with
 | nil =>
  have L1:=lS g1
  have hc:iLt i (lenA pA)=false:=xR e_iLt e_lenA (by omega)
  have hd:pa=d:=by rw [g1,List.append_nil]
  rw [← hd] at gc
  rw [← gc]
  have fz:=hc
  refine Cq ?_
  refine Aq ?_
  refine zk ?_
  refine Aq ?_
  exact oE_norm (fun _=>.inl rfl)
 | cons q r =>
  have L1:=lS g1
  have hc:iLt i (lenA pA)=true:=xU e_iLt e_lenA (by omega)
  have hel:atA pA i=q.enc:=by
   simp only [ee]
   rw [hpA,g1,zu,gi]
   simp
  obtain ⟨g,cs,hcs,pq,hq⟩:=ha q (by rw [g1];simp)
  have hat2:=fun j y=>hat (d:=d) (r:=r) (q:=q) (j:=j) (y:=y) g1
  have kq:=Pat.closed q
  have pqx:=pq.toX X hS
  obtain ⟨qO,qA,qT,qV,qS,qN,qCo,qCa,qCv,qCf,qCk,qXk,qXn,qXt,hyq⟩:=Pat.form q
  rw [hyq] at hel kq pqx
  clear hyq hat ho hol pq
  have hi2:iAdd .i64 i 1=((d++[q]).length:Int):=by rw [List.length_append];exact yh e_iAdd gi (by omega)
  rw [← gc] at hat2
  have hnx:brL t 0 (d++[q])=brL t 0 d++brR t d.length q:=by rw [brL_app,brL,brL,List.append_nil,Nat.zero_add]
  by_cases h1:t.op=1
  · have n1:iEq pO 1=true:=by simp only [ee];simp [hpO,h1]
    by_cases hd0:d=[]
    · have hbr:brR t d.length q=q.outs.map fun y=>(y.1,uj y.2 (t.args.drop 1)):=by rw [brR,if_pos h1,hd0,List.length_nil,if_pos rfl]
      rw [hbr,hargs] at hat2 hnx
      have n2:iLt 0 i=false:=by simp only [ee];simp [gi,hd0]
      have nb:bAnd true false=false:=by simp only [ee];rfl
      have nt:bNot true=false:=by simp only [ee];rfl
      have nf:bNot false=true:=by simp only [ee];rfl
      have hgo:∀ m:Nat,∀ y∈(List.map wM q.outs),AV.closedL y=true:=fun m y hy=>by obtain ⟨z,_,rfl⟩:=List.mem_map.1 hy;exact outA_closed z
      have hdr:cutA pA 1 (lenA pA)=zy Pat.enc (pa.drop 1):=by
       simp only [ee]
       rw [hpA,zu,zu,List.map_drop,Int.toNat_natCast,List.take_length]
       rfl
      have hcd:=Pat.closedI (pa.drop 1)
      have hpc:=fun z=>P_continued z (pa.drop 1) (by rw [List.length_drop];omega)
      rw [← hdr] at hcd hpc
      have fz:=And.intro hc hel
      refine Cq ?_
      have fz:=And.intro hc (And.intro hel (And.intro n1 (And.intro n2 nb)))
      refine Cr ?_
      have fz:=And.intro n1 (And.intro n2 nb)
      refine Cr ?_
      refine zh (args:=[.agg [int qO,.isl 14 qA,int qT,int qV,int qS,int qN,int qCo,.isl 8 qCa,int qCv,int qCf,int qCk,int qXk,int qXn,str qXt]]) rfl rfl rfl pqx (zg kq) ?_
      refine Aq ?_
      refine AWP.ent (yz (F':=[(23,.fn g cs),(3,.ptr 2 0),(10,int i),(9,int (lenA pA)),(8,.isl 14 pA),(2,.ptr 1 0),(1,.iptr [int pO,.isl 14 pA,int pT,int pV,int pS,int pN,int pCo,.isl 8 pCa,int pCv,int pCf,int pCk,int pXk,int pXn,str pXt])]) ⟨.refl _,.refl _,.refl _,.refl _,.refl _,.refl _,.refl _,trivial⟩) ?_
      have kF:KpF 5 [(23,.fn g cs),(3,.ptr 2 0),(10,int i),(9,int (lenA pA)),(8,.isl 14 pA),(2,.ptr 1 0),(1,.iptr [int pO,.isl 14 pA,int pT,int pV,int pS,int pN,int pCo,.isl 8 pCa,int pCv,int pCf,int pCk,int pXk,int pXn,str pXt])]:=⟨.cl hcs,.ptr (by decide),.cl rfl,.cl rfl,.cl (by rw [hpA];exact Pat.closedI _),.ptr (by decide),.cl hcl,trivial⟩
      obtain ⟨cf,hcf⟩:∃ cf:Nat→Nat,∀ j,cf j=c+j:=⟨_,fun _=>rfl⟩
      have hc0:c=cf 0:=by rw [hcf];rfl
      have hc1:∀ j,cf (j+1)=cf j+1:=fun j=>by rw [hcf,hcf];omega
      rw [hc0]
      refine on_rfunE cf [.cells [yv blk],.cells [int i],.cells [int qO,.isl 14 qA,int qT,int qV,int qS,int qN,int qCo,.isl 8 qCa,int qCv,int qCf,int qCk,int qXk,int qXn,str qXt]] rfl hq hcs (hgo 0) (fun a ha=>by obtain ⟨y,_,rfl⟩:=List.mem_map.1 ha;rfl)
       ⟨.cells (.cl rfl),.cells (.cl rfl),.cells (.cl (by simpa only [AV.closed] using kq)),trivial⟩ kF (fun j args hj=>?_) ?_ (fun s=>?_)
      · rw [List.getElem?_map] at hj
        obtain ⟨⟨x,z⟩,hyj,rfl⟩:=Option.map_eq_some_iff.1 hj
        have hout:=hat2 j (x,uj z (pa.drop 1)) (by rw [List.getElem?_map,hyj];rfl)
        have hpj:=(hpc z).toX X hS
        have kw:=xi (uj z (pa.drop 1))
        obtain ⟨wb,wO,wA,wT,wV,wS,wN,wCo,wCa,wCv,wCf,wCk,wXk,wXn,wXt,hw,hwb⟩:=v8 (uj z (pa.drop 1))
        rw [← hcf] at hout
        rw [hc1]
        clear hyj hj hat2 hnx hq
        obtain ⟨co,ec,cv,cf,ck,xk,xn,xt,he,hec⟩:=x.form
        have kx:=x.closed
        have kz:=xi z
        obtain ⟨zb,zO,zA,zT,zV,zS,zN,zCo,zCa,zCv,zCf,zCk,zXk,zXn,zXt,hz,hzb⟩:=v8 z
        show zl _ _ _ _ _ _ (vM _ _ (wM (x,z))) _
        simp only [wM] at hout ⊢
        rw [he,hw] at hout
        rw [he,hz]
        rw [hz,hw] at hpj
        rw [hw] at kw
        rw [he] at kx
        rw [hz] at kz
        clear he hz hec hzb hw hwb
        generalize zy int x.opens=e1 at *
        generalize zy int x.closes=e2 at *
        generalize zy Ex.enc x.checks=e3 at *
        generalize zy wy x.limits=e4 at *
        generalize zy int x.inside=e5 at *
        refine Aq ?_
        refine yZ rfl ?_
        have fz:=n1
        refine Cq ?_
        refine Cq ?_
        refine Cr ?_
        refine zX rfl (by conv=>lhs;cbv) rfl ?_
        refine tgA ?_
        refine xL (args:=[.agg [bool zb,int zO,.isl 14 zA,int zT,int zV,int zS,int zN,int zCo,.isl 8 zCa,int zCv,int zCf,int zCk,int zXk,int zXn,str zXt],.isl 14 (cutA pA 1 (lenA pA))]) rfl rfl rfl hpj (by rw [AV.closedL,AV.closedL,AV.closedL,kz,hcd];rfl) ?_
        refine tgA ?_
        refine zK ⟨rfl,?_,?_⟩
        · simp only [zJ,zd,List.cons_append,List.nil_append,List.append_nil];and_intros<;>first | trivial | (intro hp;first | rfl | exact absurd (show false=true from hp) Bool.false_ne_true)
        refine goC 60 ?_
        refine w9 hy hout rfl rfl rfl rfl (WkL.refl _ _) rfl rfl ?_ ?_
        · have fz:=And.intro nt nf
          refine goC 60 ?_
          exact rndE_next rfl rfl
        have fz:=And.intro nt nf
        refine goC 60 ?_
        exact uI rfl rfl
      · show zl _ _ _ _ (.out .normal) _ _ _
        generalize hml:(List.map wM q.outs).length=m
        rw [List.length_map] at hml
        refine Aq ?_
        refine zm (d++[q],r,iAdd .i64 i 1,cf m) ⟨by simp [g1],hi2,by rw [hcf,hnx,List.length_append,List.length_map,← hml,← gc]⟩ (by simp) ?_
        dsimp only
        refine xJ (H:=[.ext (cf m) false,.cells [yv blk]]) [] (KpA.mem ?_) trivial ?_ ?_
        · exact ⟨.ext,.cells (.cl rfl),trivial⟩
        · exact ⟨.refl _,.refl _,.cl (by rw [hpA];exact Pat.closedI _),.refl _,.cl hcl,trivial⟩
        simp
      show zl _ _ _ _ (.out .ret) _ _ _
      refine Aq ?_
      refine zf ?_
      refine Aq ?_
      exact tA (fun _=>.inr ⟨_,rfl⟩)
    have hlen:0<d.length:=List.length_pos_iff.2 hd0
    have n2:iLt 0 i=true:=by simp only [ee];simp;omega
    have hdl:(brL t 0 d).length=(brL t 0 pa).length:=by
     obtain ⟨d0,d1,rfl⟩:∃ d0 d1,d=d0 :: d1:=by
      cases d with
      | nil=>exact absurd rfl hd0
      | cons a b=>exact ⟨a,b,rfl⟩
     rw [g1,List.cons_append,brL,brL,brL_one t h1,brL_one t h1]
    rw [← gc] at hdl
    rw [← hdl]
    have nb:bAnd true true=true:=by simp only [ee];rfl
    have fz:=And.intro hc hel
    refine Cq ?_
    have fz:=And.intro hc (And.intro hel (And.intro n1 (And.intro n2 nb)))
    refine Cr ?_
    have fz:=And.intro n1 (And.intro n2 nb)
    refine Cr ?_
    refine zf ?_
    refine Aq ?_
    exact tA (fun _=>.inl rfl)
  have n1:iEq pO 1=false:=by simp only [ee];simp [hpO,h1]
  have nt:bNot true=false:=by simp only [ee];rfl
  have nf:bNot false=true:=by simp only [ee];rfl
  have nb:∀ b,bAnd false b=false:=by intro b;simp only [ee];rfl
  have hgo:∀ m:Nat,∀ y∈(List.map wM q.outs),AV.closedL y=true:=fun m y hy=>by obtain ⟨z,_,rfl⟩:=List.mem_map.1 hy;exact outA_closed z
  by_cases h2:t.op=2
  · have hbr:brR t d.length q=q.outs:=by rw [brR,if_neg h1,if_neg (by omega)]
    rw [hbr] at hat2 hnx
    have n3:iEq pO 3=false:=by simp only [ee];simp [hpO,h2]
    have fz:=And.intro hc hel
    refine Cq ?_
    have fz:=And.intro hc (And.intro hel (And.intro n1 nb))
    refine Cr ?_
    have fz:=And.intro n1 nb
    refine Cr ?_
    refine zh (args:=[.agg [int qO,.isl 14 qA,int qT,int qV,int qS,int qN,int qCo,.isl 8 qCa,int qCv,int qCf,int qCk,int qXk,int qXn,str qXt]]) rfl rfl rfl pqx (zg kq) ?_
    refine Aq ?_
    refine AWP.ent (yz (F':=[(23,.fn g cs),(3,.ptr 2 0),(10,int i),(9,int (lenA pA)),(8,.isl 14 pA),(2,.ptr 1 0),(1,.iptr [int pO,.isl 14 pA,int pT,int pV,int pS,int pN,int pCo,.isl 8 pCa,int pCv,int pCf,int pCk,int pXk,int pXn,str pXt])]) ⟨.refl _,.refl _,.refl _,.refl _,.refl _,.refl _,.refl _,trivial⟩) ?_
    have kF:KpF 5 [(23,.fn g cs),(3,.ptr 2 0),(10,int i),(9,int (lenA pA)),(8,.isl 14 pA),(2,.ptr 1 0),(1,.iptr [int pO,.isl 14 pA,int pT,int pV,int pS,int pN,int pCo,.isl 8 pCa,int pCv,int pCf,int pCk,int pXk,int pXn,str pXt])]:=⟨.cl hcs,.ptr (by decide),.cl rfl,.cl rfl,.cl (by rw [hpA];exact Pat.closedI _),.ptr (by decide),.cl hcl,trivial⟩
    obtain ⟨cf,hcf⟩:∃ cf:Nat→Nat,∀ j,cf j=c+j:=⟨_,fun _=>rfl⟩
    have hc0:c=cf 0:=by rw [hcf];rfl
    have hc1:∀ j,cf (j+1)=cf j+1:=fun j=>by rw [hcf,hcf];omega
    rw [hc0]
    refine on_rfunE cf [.cells [yv blk],.cells [int i],.cells [int qO,.isl 14 qA,int qT,int qV,int qS,int qN,int qCo,.isl 8 qCa,int qCv,int qCf,int qCk,int qXk,int qXn,str qXt]] rfl hq hcs (hgo 0) (fun a ha=>by obtain ⟨y,_,rfl⟩:=List.mem_map.1 ha;rfl)
     ⟨.cells (.cl rfl),.cells (.cl rfl),.cells (.cl (by simpa only [AV.closed] using kq)),trivial⟩ kF (fun j args hj=>?_) ?_ (fun s=>?_)
    · rw [List.getElem?_map] at hj
      obtain ⟨⟨x,z⟩,hyj,rfl⟩:=Option.map_eq_some_iff.1 hj
      have hout:=hat2 j _ hyj
      rw [← hcf] at hout
      rw [hc1]
      clear hyj hj hat2 hnx hq
      obtain ⟨co,ec,cv,cf,ck,xk,xn,xt,he,hec⟩:=x.form
      have kx:=x.closed
      have kz:=xi z
      obtain ⟨zb,zO,zA,zT,zV,zS,zN,zCo,zCa,zCv,zCf,zCk,zXk,zXn,zXt,hz,hzb⟩:=v8 z
      show zl _ _ _ _ _ _ (vM _ _ (wM (x,z))) _
      simp only [wM] at hout ⊢
      rw [he,hz] at hout ⊢
      rw [he] at kx
      rw [hz] at kz
      clear he hz hec hzb
      generalize zy int x.opens=e1 at *
      generalize zy int x.closes=e2 at *
      generalize zy Ex.enc x.checks=e3 at *
      generalize zy wy x.limits=e4 at *
      generalize zy int x.inside=e5 at *
      refine Aq ?_
      refine yZ rfl ?_
      have fz:=And.intro n1 n3
      refine Cq ?_
      refine Cq ?_
      refine goC 60 ?_
      refine w9 hy hout rfl rfl rfl rfl (WkL.refl _ _) rfl rfl ?_ ?_
      · have fz:=And.intro nt nf
        refine goC 60 ?_
        exact rndE_next rfl rfl
      have fz:=And.intro nt nf
      refine goC 60 ?_
      exact uI rfl rfl
    · show zl _ _ _ _ (.out .normal) _ _ _
      generalize hml:(List.map wM q.outs).length=m
      rw [List.length_map] at hml
      refine Aq ?_
      refine zm (d++[q],r,iAdd .i64 i 1,cf m) ⟨by simp [g1],hi2,by rw [hcf,hnx,List.length_append,← hml,← gc]⟩ (by simp) ?_
      dsimp only
      refine xJ (H:=[.ext (cf m) false,.cells [yv blk]]) [] (KpA.mem ?_) trivial ?_ ?_
      · exact ⟨.ext,.cells (.cl rfl),trivial⟩
      · exact ⟨.refl _,.refl _,.cl (by rw [hpA];exact Pat.closedI _),.refl _,.cl hcl,trivial⟩
      simp
    show zl _ _ _ _ (.out .ret) _ _ _
    refine Aq ?_
    refine zf ?_
    refine Aq ?_
    exact tA (fun _=>.inr ⟨_,rfl⟩)
  have h3:t.op=3:=by omega
  have hbr:brR t d.length q=q.outs.map fun y=>(y.1,tC t.args d.length y.2):=by rw [brR,if_neg h1,if_pos h3]
  rw [hbr,hargs] at hat2 hnx
  have n3:iEq pO 3=true:=by simp only [ee];simp [hpO,h3]
  have fz:=And.intro hc hel
  refine Cq ?_
  have fz:=And.intro hc (And.intro hel (And.intro n1 nb))
  refine Cr ?_
  have fz:=And.intro n1 nb
  refine Cr ?_
  refine zh (args:=[.agg [int qO,.isl 14 qA,int qT,int qV,int qS,int qN,int qCo,.isl 8 qCa,int qCv,int qCf,int qCk,int qXk,int qXn,str qXt]]) rfl rfl rfl pqx (zg kq) ?_
  refine Aq ?_
  refine AWP.ent (yz (F':=[(23,.fn g cs),(3,.ptr 2 0),(10,int i),(9,int (lenA pA)),(8,.isl 14 pA),(2,.ptr 1 0),(1,.iptr [int pO,.isl 14 pA,int pT,int pV,int pS,int pN,int pCo,.isl 8 pCa,int pCv,int pCf,int pCk,int pXk,int pXn,str pXt])]) ⟨.refl _,.refl _,.refl _,.refl _,.refl _,.refl _,.refl _,trivial⟩) ?_
  have kF:KpF 5 [(23,.fn g cs),(3,.ptr 2 0),(10,int i),(9,int (lenA pA)),(8,.isl 14 pA),(2,.ptr 1 0),(1,.iptr [int pO,.isl 14 pA,int pT,int pV,int pS,int pN,int pCo,.isl 8 pCa,int pCv,int pCf,int pCk,int pXk,int pXn,str pXt])]:=⟨.cl hcs,.ptr (by decide),.cl rfl,.cl rfl,.cl (by rw [hpA];exact Pat.closedI _),.ptr (by decide),.cl hcl,trivial⟩
  obtain ⟨cf,hcf⟩:∃ cf:Nat→Nat,∀ j,cf j=c+j:=⟨_,fun _=>rfl⟩
  have hc0:c=cf 0:=by rw [hcf];rfl
  have hc1:∀ j,cf (j+1)=cf j+1:=fun j=>by rw [hcf,hcf];omega
  rw [hc0]
  refine on_rfunE cf [.cells [yv blk],.cells [int i],.cells [int qO,.isl 14 qA,int qT,int qV,int qS,int qN,int qCo,.isl 8 qCa,int qCv,int qCf,int qCk,int qXk,int qXn,str qXt]] rfl hq hcs (hgo 0) (fun a ha=>by obtain ⟨y,_,rfl⟩:=List.mem_map.1 ha;rfl)
   ⟨.cells (.cl rfl),.cells (.cl rfl),.cells (.cl (by simpa only [AV.closed] using kq)),trivial⟩ kF (fun j args hj=>?_) ?_ (fun s=>?_)
  · rw [List.getElem?_map] at hj
    obtain ⟨⟨x,z⟩,hyj,rfl⟩:=Option.map_eq_some_iff.1 hj
    have hout:=hat2 j (x,tC pa d.length z) (by rw [List.getElem?_map,hyj];rfl)
    have hpj:=(pjn h3 pa d.length z (by rw [L1];omega) hl).toX X hS
    rw [← hpA,← gi] at hpj
    have kw:=xi (tC pa d.length z)
    obtain ⟨wb,wO,wA,wT,wV,wS,wN,wCo,wCa,wCv,wCf,wCk,wXk,wXn,wXt,hw,hwb⟩:=v8 (tC pa d.length z)
    rw [← hcf] at hout
    rw [hc1]
    clear hyj hj hat2 hnx hq
    obtain ⟨co,ec,cv,cf,ck,xk,xn,xt,he,hec⟩:=x.form
    have kx:=x.closed
    have kz:=xi z
    obtain ⟨zb,zO,zA,zT,zV,zS,zN,zCo,zCa,zCv,zCf,zCk,zXk,zXn,zXt,hz,hzb⟩:=v8 z
    show zl _ _ _ _ _ _ (vM _ _ (wM (x,z))) _
    simp only [wM] at hout ⊢
    rw [he,hw] at hout
    rw [he,hz]
    rw [hz,hw] at hpj
    rw [hw] at kw
    rw [he] at kx
    rw [hz] at kz
    clear he hz hec hzb hw hwb
    generalize zy int x.opens=e1 at *
    generalize zy int x.closes=e2 at *
    generalize zy Ex.enc x.checks=e3 at *
    generalize zy wy x.limits=e4 at *
    generalize zy int x.inside=e5 at *
    refine Aq ?_
    refine yZ rfl ?_
    have fz:=And.intro n1 n3
    refine Cq ?_
    refine Cq ?_
    refine goC 60 ?_
    refine zh (args:=[.isl 14 pA,int i,.agg [bool zb,int zO,.isl 14 zA,int zT,int zV,int zS,int zN,int zCo,.isl 8 zCa,int zCv,int zCf,int zCk,int zXk,int zXn,str zXt]]) rfl rfl rfl hpj (by rw [AV.closedL,AV.closedL,AV.closedL,AV.closedL,kz,show (AV.isl 14 pA).closed=true from by rw [hpA];exact Pat.closedI _];rfl) ?_
    refine goC 60 ?_
    refine w9 hy hout rfl rfl rfl rfl (WkL.refl _ _) rfl rfl ?_ ?_
    · have fz:=And.intro nt nf
      refine goC 60 ?_
      exact rndE_next rfl rfl
    have fz:=And.intro nt nf
    refine goC 60 ?_
    exact uI rfl rfl
  · show zl _ _ _ _ (.out .normal) _ _ _
    generalize hml:(List.map wM q.outs).length=m
    rw [List.length_map] at hml
    refine Aq ?_
    refine zm (d++[q],r,iAdd .i64 i 1,cf m) ⟨by simp [g1],hi2,by rw [hcf,hnx,List.length_append,List.length_map,← hml,← gc]⟩ (by simp) ?_
    dsimp only
    refine xJ (H:=[.ext (cf m) false,.cells [yv blk]]) [] (KpA.mem ?_) trivial ?_ ?_
    · exact ⟨.ext,.cells (.cl rfl),trivial⟩
    · exact ⟨.refl _,.refl _,.cl (by rw [hpA];exact Pat.closedI _),.refl _,.cl hcl,trivial⟩
    simp
  show zl _ _ _ _ (.out .ret) _ _ _
  refine Aq ?_
  refine zf ?_
  refine Aq ?_
  exact tA (fun _=>.inr ⟨_,rfl⟩)
end Go.Am
end
