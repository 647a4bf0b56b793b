/- Contracts of the program's functions, for every argument that meets the conditions that each theorem names. -/
import Derived.Test.YtdbikeconboifaaGreatDoorAm6
import Derived.Test.YtdbikeconboifaaGreatDoorCt2
import Derived.Test.YtdbikeconboifaaGreatDoorAm5
section
set_option maxHeartbeats 16000000
set_option maxRecDepth 100000
namespace Go.Am
open Go.Proofs
theorem enters_pattern_walk : Enters EE.P 68 := enters_of (fn := Tryz.f68) (n := 23) (ac := Tryzc68) rfl (by decide) Tryzp68
theorem enters_pattern_preorder_1 : Enters EE.P 67 := enters_of (fn := Tryz.f67) (n := 6) (ac := Tryzc67) rfl (by decide) Tryzp67
theorem C_walk (A0 A1 A2 A3 A4 A5 A6 : List Pat → AObj) (Lp : AObj) (C0 C1 : List Pat → AObj) (G : List Pat → Prop) (S : AHeap → Prop) (hb : ∀ d, ∀ o ∈ [A0 d, A1 d, A2 d, A3 d, A4 d, A5 d, A6 d, Lp, C0 d, C1 d], Keeps o) :
 ∀ p : Pat, p.Sm → ∀ (pre all : List Pat) (H0 : AHeap), HEnt EE 8 7 H0 [A0 pre, A1 pre, A2 pre, A3 pre, A4 pre, A5 pre, A6 pre, Lp, C0 pre, C1 pre] → (∃ post, all = pre ++ (p.nodes ++ post)) → G pre →
  (∀ d q r, all = d ++ q :: r → G d → AYield EE 7 [q.enc] [A0 d, A1 d, A2 d, A3 d, A4 d, A5 d, A6 d, Lp, C0 d, C1 d] (YdR EE (G (d ++ [q])) [A0 (d ++ [q]), A1 (d ++ [q]), A2 (d ++ [q]), A3 (d ++ [q]), A4 (d ++ [q]), A5 (d ++ [q]), A6 (d ++ [q]), Lp, C0 (d ++ [q]), C1 (d ++ [q])] S)) →
  ACallN EE 8 68 [p.enc, .yld 7] H0 (WkR (G (pre ++ p.nodes)) [A0 (pre ++ p.nodes), A1 (pre ++ p.nodes), A2 (pre ++ p.nodes), A3 (pre ++ p.nodes), A4 (pre ++ p.nodes), A5 (pre ++ p.nodes), A6 (pre ++ p.nodes), Lp, C0 (pre ++ p.nodes), C1 (pre ++ p.nodes)] S) := by
 refine Pat.ind ?_
 intro o a t v s n c ih hs pre all H0 h0 hpost hG hy
 have hlen := hs.len
 obtain ⟨post, hall⟩ := hpost
 rw [Pat.nodes, List.cons_append] at hall
 have hyp := hy pre _ _ hall hG
 obtain ⟨pp, hpp⟩ : ∃ pp, pp = Pat.mk o a t v s n c := ⟨_, rfl⟩
 rw [← hpp] at hall hyp
 have hnod : (Pat.mk o a t v s n c).nodes = pp :: Pat.nodesL a := by rw [Pat.nodes, hpp]
 rw [hnod]
 have hpc := Pat.closed pp
 have hpe : pp.enc = (Pat.mk o a t v s n c).enc := by rw [hpp]
 have hih : ∀ q ∈ a, _ := fun q hq => ih q hq (hs.arg hq)
 have hcl := Pat.closedI a
 have hcL := Pat.closedL a
 obtain ⟨co, ca, cv, cf, ck, xk, xn, xt⟩ := c
 rw [Pat.enc_mk] at hpe ⊢
 dsimp only at hpe ⊢
 rw [hpe] at hyp hpc
 clear ih hpp hpe hs hnod
 refine wordsN ?_; unhygienic intros
 generalize hes : mapE Pat.enc a = es at *
 generalize mapE Ex.enc ca = ec at *
 have hel : es.length = a.length := by rw [← hes, mapE_len]
 have hpcl : AV.closedL [int o, .isl 14 es, int t, int v, int s, int n, int co, .isl 8 ec, int cv, int cf, int ck, int xk, int xn, str xt] = true := hpc
 have hnt : bNot true = false := by simp [ee]
 have hnf : bNot false = true := by simp [ee]
 have hd : ∀ d, ∀ o ∈ [A0 d, A1 d, A2 d, A3 d, A4 d, A5 d, A6 d, Lp, C0 d, C1 d], o.sub (keepS 10) = o := fun d => keeps_drop rfl (hb d)
 have hip : (AV.iptr [int o, .isl 14 es, int t, int v, int s, int n, int co, .isl 8 ec, int cv, int cf, int ck, int xk, int xn, str xt]).closed = true := hpc
 refine rcallN_body (fn := Tryz.f68) (n := 23) (ac := Tryzc68) (rvs := [.t 4]) rfl Tryzp68 rfl rfl rfl ?_
 refine on_ent (h0.ent (F' := [(0, .agg [int o, .isl 14 es, int t, int v, int s, int n, int co, .isl 8 ec, int cv, int cf, int ck, int xk, int xn, str xt]), (1, .yld 7)]) ⟨.cl hpc, .refl _, trivial⟩) ?_
 have hyall : ∀ d q r, pre ++ pp :: (Pat.nodesL a ++ post) = d ++ q :: r → G d → _ := fun d q r h hg => hy d q r (hall.trans h) hg
 refine goA 0 ?_
 refine on_fz10 (F' := [(8, .agg [int o, .isl 14 es, int t, int v, int s, int n, int co, .isl 8 ec, int cv, int cf, int ck, int xk, int xn, str xt]), (7, .yld 7), (2, .iptr [int o, .isl 14 es, int t, int v, int s, int n, int co, .isl 8 ec, int cv, int cf, int ck, int xk, int xn, str xt]), (1, .yld 7)]) (hb pre) hpcl ⟨.cl hpc, .refl _, .refl _, .refl _, trivial⟩ ?_
 refine on_callv rfl rfl rfl rfl hyp ?_
 rintro v1 H1 (⟨rfl, hG1, he⟩ | ⟨rfl, hS⟩)
 rotate_left
 · refine goB hX 1 (by conv => lhs; cbv; try simp only [hnf]; cbv; try simp only [hnf]; cbv; try simp only [hnf]; cbv; try simp only [hnf]; cbv) ?_
   exact o_ret (.refl _ _ _ _ _) rfl (.inr ⟨rfl, hS⟩)
 refine on_entO (he.ent (F' := [(9, .val (.bool true)), (2, .iptr [int o, .isl 14 es, int t, int v, int s, int n, int co, .isl 8 ec, int cv, int cf, int ck, int xk, int xn, str xt]), (1, .yld 7)]) ⟨.refl _, .cl hip, .refl _, trivial⟩) ?_
 refine goB hX 0 (by conv => lhs; cbv; try simp only [hnt]; cbv; try simp only [hnt]; cbv; try simp only [hnt]; cbv; try simp only [hnt]; cbv) ?_
 refine goA 60 ?_
 refine on_loopP (ι := List Pat × List Pat × Int × List Pat) (fun p => ([(14, int p.2.2.1), (13, int (lenA es)), (12, .isl 14 es), (1, .yld 7)], [A0 p.2.2.2, A1 p.2.2.2, A2 p.2.2.2, A3 p.2.2.2, A4 p.2.2.2, A5 p.2.2.2, A6 p.2.2.2, Lp, C0 p.2.2.2, C1 p.2.2.2])) (fun p => a = p.1 ++ p.2.1 ∧ p.2.2.1 = p.1.length ∧ p.2.2.2 = pre ++ pp :: Pat.nodesL p.1 ∧ G p.2.2.2) (fun p => p.2.1.length) ([], a, 0, pre ++ [pp]) ⟨rfl, rfl, by simp [Pat.nodesL], hG1⟩ ?_ ?_
 · exact ent_fw ⟨.refl _, .refl _, .refl _, .refl _, trivial⟩
 rintro ⟨d, r, i, x⟩ ⟨g1, gi, gx, gG⟩
 dsimp only at g1 gi gx gG ⊢
 cases r with
 | nil =>
  have L1 := len_split g1
  try simp only [List.length] at L1
  have hc : iLt i (lenA es) = false := lt_f e_iLt e_lenA (by omega)
  rw [List.append_nil] at g1
  refine goB hX 1 (by conv => lhs; cbv; try simp only [hc]; cbv; try simp only [hc]; cbv; try simp only [hc]; cbv; try simp only [hc]; cbv) ?_
  refine loopP_exit ?_
  refine goA 60 ?_
  exact o_ret (.refl _ _ _ _ _) rfl (.inl ⟨rfl, by rw [g1, ← gx]; exact gG, by rw [g1, gx]⟩)
 | cons q r =>
  have L1 := len_split g1
  try simp only [List.length] at L1
  have hc : iLt i (lenA es) = true := lt_t e_iLt e_lenA (by omega)
  have hat := el_at e_atA hes g1 gi
  have hq := hih q (by rw [g1]; simp) x (pre ++ pp :: (Pat.nodesL a ++ post)) [A0 x, A1 x, A2 x, A3 x, A4 x, A5 x, A6 x, Lp, C0 x, C1 x] (HEnt.refl (by simp)) ⟨Pat.nodesL r ++ post, by rw [gx, g1, Pat.nodesL_append]; simp [Pat.nodesL]⟩ gG hyall
  have hqc := Pat.closed q
  have hi2 : iAdd .i64 i 1 = ((d ++ [q]).length : Int) := by rw [List.length_append]; exact inc_w e_iAdd gi (by omega)
  have hx2 : x ++ q.nodes = pre ++ pp :: Pat.nodesL (d ++ [q]) := by rw [gx, Pat.nodesL_append]; simp [Pat.nodesL]
  obtain ⟨qO, qA, qT, qV, qS, qN, qCo, qCa, qCv, qCf, qCk, qXk, qXn, qXt, hx⟩ := Pat.form q
  rw [hx] at hat hqc hq
  generalize hXx : x ++ q.nodes = X at hq hx2
  refine goB hX 1 (by conv => lhs; cbv; try simp only [hc, hat]; cbv; try simp only [hc, hat]; cbv; try simp only [hc, hat]; cbv; try simp only [hc, hat]; cbv) ?_
  refine on_drop (H := [A0 x, A1 x, A2 x, A3 x, A4 x, A5 x, A6 x, Lp, C0 x, C1 x]) (X := [_]) (F' := [(18, .agg [int qO, .isl 14 qA, int qT, int qV, int qS, int qN, int qCo, .isl 8 qCa, int qCv, int qCf, int qCk, int qXk, int qXn, str qXt]), (19, .yld 7), (14, int i), (13, int (lenA es)), (12, .isl 14 es), (1, .yld 7)]) (hd x) (by simp) ⟨.cl hqc, .refl _, .refl _, .refl _, .cl hcl, .refl _, trivial⟩ ?_
  refine on_callN (F2 := [(14, int i), (13, int (lenA es)), (12, .isl 14 es), (1, .yld 7)]) rfl rfl rfl enters_pattern_walk hq ⟨.refl _, .refl _, .cl hcl, .refl _, trivial⟩ ?_
  rintro v2 H2 (⟨rfl, hG2, rfl⟩ | ⟨rfl, hS⟩)
  · refine goB hX 1 (by conv => lhs; cbv; try simp only [hnt]; cbv; try simp only [hnt]; cbv; try simp only [hnt]; cbv; try simp only [hnt]; cbv) ?_
    exact loopP_next (d ++ [q], r, iAdd .i64 i 1, X) ⟨by simp [g1], hi2, hx2, hG2⟩ (by simp) (ent_fw ⟨.refl _, .refl _, .refl _, .refl _, trivial⟩)
  · refine goB hX 1 (by conv => lhs; cbv; try simp only [hnf]; cbv; try simp only [hnf]; cbv; try simp only [hnf]; cbv; try simp only [hnf]; cbv) ?_
    refine loopP_ret ?_
    refine goA 60 ?_
    exact o_ret (.refl _ _ _ _ _) rfl (.inr ⟨rfl, hS⟩)
theorem C_preorder1 (A0 A1 A2 A3 A4 A5 A6 : List Pat → AObj) (Lp : AObj) (C0 C1 : List Pat → AObj) (G : List Pat → Prop) (S : AHeap → Prop) (hb : ∀ d, ∀ o ∈ [A0 d, A1 d, A2 d, A3 d, A4 d, A5 d, A6 d, Lp, C0 d, C1 d], Keeps o)
 (p : Pat) (hs : p.Sm) {cs : List AV} (hp : p.enc = .agg cs) (H0 : AHeap) (hN : H0.length = 8) (h0 : HEnt EE 8 7 H0 [A0 [], A1 [], A2 [], A3 [], A4 [], A5 [], A6 [], Lp, C0 [], C1 []]) (hG : G [])
  (hy : ∀ d q r, p.nodes = d ++ q :: r → G d → AYield EE 7 [q.enc] [A0 d, A1 d, A2 d, A3 d, A4 d, A5 d, A6 d, Lp, C0 d, C1 d] (YdR EE (G (d ++ [q])) [A0 (d ++ [q]), A1 (d ++ [q]), A2 (d ++ [q]), A3 (d ++ [q]), A4 (d ++ [q]), A5 (d ++ [q]), A6 (d ++ [q]), Lp, C0 (d ++ [q]), C1 (d ++ [q])] S)) :
  ACall EE 67 [.yld 7, .iptr cs] H0 (fun _ H1 => (G p.nodes ∧ H1 = [A0 p.nodes, A1 p.nodes, A2 p.nodes, A3 p.nodes, A4 p.nodes, A5 p.nodes, A6 p.nodes, Lp, C0 p.nodes, C1 p.nodes]) ∨ S H1) := by
 have hw := C_walk A0 A1 A2 A3 A4 A5 A6 Lp C0 C1 G S hb p hs [] p.nodes H0 h0 ⟨[], by simp⟩ hG hy
 rw [List.nil_append] at hw
 have hpc := Pat.closed p
 obtain ⟨pO, pA, pT, pV, pS, pN, pCo, pCa, pCv, pCf, pCk, pXk, pXn, pXt, hx⟩ := Pat.form p
 rw [hx] at hp hw hpc
 injection hp with hp
 subst hp
 generalize p.nodes = nl at *
 clear hy h0
 have hip : (AV.iptr [int pO, .isl 14 pA, int pT, int pV, int pS, int pN, int pCo, .isl 8 pCa, int pCv, int pCf, int pCk, int pXk, int pXn, str pXt]).closed = true := hpc
 refine wordsN ?_; unhygienic intros
 refine rcall_body (fn := Tryz.f67) (n := 6) (ac := Tryzc67) (rvs := []) rfl Tryzp67 rfl rfl rfl ?_
 rw [hN]
 refine goA 0 ?_
 refine on_callN (F2 := []) rfl rfl rfl enters_pattern_walk hw trivial ?_
 rintro v2 H2 (⟨rfl, hG2, rfl⟩ | ⟨rfl, hS⟩)
 · refine goA 0 ?_
   exact o_norm (.refl _ _ _ _ _) rfl (.inl ⟨hG2, rfl⟩)
 · refine goA 0 ?_
   exact o_norm (.refl _ _ _ _ _) rfl (.inr hS)
theorem P_preorder (p : Pat) {cs : List AV} (hp : p.enc = .agg cs) : PCall EE 38 [.agg cs] (.fn 67 [.iptr cs]) := by
 have hpc := Pat.closed p
 obtain ⟨pO, pA, pT, pV, pS, pN, pCo, pCa, pCv, pCf, pCk, pXk, pXn, pXt, hx⟩ := Pat.form p
 rw [hx] at hp hpc
 injection hp with hp
 subst hp
 have hcl : AV.closedL [int pO, .isl 14 pA, int pT, int pV, int pS, int pN, int pCo, .isl 8 pCa, int pCv, int pCf, int pCk, int pXk, int pXn, str pXt] = true := hpc
 refine wordsN ?_; unhygienic intros
 refine fn_body (fn := Tryz.f38) (n := 4) (ac := Tryzc38) (rvs := [.t 2]) rfl (by decide) Tryzp38 rfl rfl rfl ?_
 refine goA 0 ?_
 refine fn_ret rfl rfl ⟨[.icells [int pO, .isl 14 pA, int pT, int pV, int pS, int pN, int pCo, .isl 8 pCa, int pCv, int pCf, int pCk, int pXk, int pXn, str pXt]], ⟨⟨_, rfl, (subL_closed _ hcl).symm⟩, trivial⟩, .of rfl⟩
theorem on_preorder {n N : Nat} {Q : AExit → AFr → AHeap → Prop} {k : List KI} {F : AFr} {f : Opd} {ps : List Nat} {a b : ACode} {o0 o1 o2 o3 o4 o5 o6 : AObj} (A0 A1 A2 A3 A4 A5 A6 C0 C1 : List Pat → AObj) (G : List Pat → Prop) (p : Pat) (hs : p.Sm) {cs : List AV} (hp : p.enc = .agg cs)
 (hf : f.ev EE.G F = .fn 67 [.iptr cs]) (hps : ps.length = 1) (hF : FK F) (hG : G [])
 (h0 : HEnt EE 8 7 [o0, o1, o2, o3, o4, o5, o6, .loop F n ps a b .ready none] [A0 [], A1 [], A2 [], A3 [], A4 [], A5 [], A6 [], .loop F n ps a b .ready none, C0 [], C1 []])
 (k0 : ∀ d, Keeps (A0 d)) (k1 : ∀ d, Keeps (A1 d)) (k2 : ∀ d, Keeps (A2 d)) (k3 : ∀ d, Keeps (A3 d)) (k4 : ∀ d, Keeps (A4 d)) (k5 : ∀ d, Keeps (A5 d)) (k6 : ∀ d, Keeps (A6 d)) (k8 : ∀ d, Keeps (C0 d)) (k9 : ∀ d, Keeps (C1 d))
 (hend : G p.nodes → Holds EE n N Q (.out .normal) k F [A0 p.nodes, A1 p.nodes, A2 p.nodes, A3 p.nodes, A4 p.nodes, A5 p.nodes, A6 p.nodes, .dead, C0 p.nodes, C1 p.nodes])
 (hy : ∀ d q r, p.nodes = d ++ q :: r → G d → Holds EE n 10 (AssignQ EE 7 10 F n ps a b (YdR EE (G (d ++ [q])) [A0 (d ++ [q]), A1 (d ++ [q]), A2 (d ++ [q]), A3 (d ++ [q]), A4 (d ++ [q]), A5 (d ++ [q]), A6 (d ++ [q]), .loop F n ps a b .ready none, C0 (d ++ [q]), C1 (d ++ [q])] (StopS EE n N Q k F ps a b))) (.code a) [] (bindF F ps [q.enc])
  [A0 d, A1 d, A2 d, A3 d, A4 d, A5 d, A6 d, .loop F n ps a b .ready none, C0 d, C1 d]) :
 Holds EE n N Q (.code (.rfun f ps a b)) k F [o0, o1, o2, o3, o4, o5, o6] := by
 refine on_rfun hf enters_pattern_preorder_1 ?_
 refine ACall.mono (C_preorder1 A0 A1 A2 A3 A4 A5 A6 (.loop F n ps a b .ready none) C0 C1 G (StopS EE n N Q k F ps a b) (fun d o ho => ?_) p hs hp _ rfl h0 hG (fun d q r h hg => yield_round (l := 7) rfl hps (hy d q r h hg))) ?_
 · simp only [List.mem_cons, List.not_mem_nil, or_false] at ho
   rcases ho with rfl | rfl | rfl | rfl | rfl | rfl | rfl | rfl | rfl | rfl
   · exact k0 d
   · exact k1 d
   · exact k2 d
   · exact k3 d
   · exact k4 d
   · exact k5 d
   · exact k6 d
   · exact .loop hF
   · exact k8 d
   · exact k9 d
 · rintro v H1 (⟨hg, rfl⟩ | ⟨e, h1, h2⟩)
   · exact ⟨.ready, none, rfl, by simp, hend hg⟩
   · exact ⟨.done, some e, h1, by simp, h2⟩
def leastF (o : Int) : Int := if o = 0 then 0 else if o = 1 ∨ o = 2 ∨ o = 3 ∨ o = 8 then 2 else 1
def mostF (o : Int) : Int := if o = 0 then 0 else if o = 1 ∨ o = 2 ∨ o = 3 then 64 else if o = 8 then 2 else 1
def typedF (o : Int) : Bool := decide (o = 0 ∨ o = 5 ∨ o = 9)
def condF (o : Int) : Bool := decide (o = 0 ∨ o = 5 ∨ o = 7 ∨ o = 9)
def scopeF (o : Int) : Bool := decide (o = 5 ∨ o = 6 ∨ o = 9 ∨ o = 10)
def spanF (o : Int) : Bool := decide (o = 6 ∨ o = 10)
theorem shape_row {o : Int} (h0 : 0 ≤ o) (h1 : o < 11) : Wd.rowA (Classical.choice tabBox_ne).g o 6 = [int (leastF o), int (mostF o), bool (typedF o), bool (condF o), bool (scopeF o), bool (spanF o)] := by
 rw [(Classical.choice tabBox_ne).h]
 obtain ⟨n, rfl⟩ : ∃ n : Nat, o = n := ⟨o.toNat, by omega⟩
 have : n < 11 := by omega
 match n, this with
 | 0, _ | 1, _ | 2, _ | 3, _ | 4, _ | 5, _ | 6, _ | 7, _ | 8, _ | 9, _ | 10, _ => rfl
theorem P_within (u : Bool) (n m : Int) : PCall EE 76 [bool u, int n, int m] (bool (decide (u = false ∨ (0 ≤ n ∧ n ≤ m)))) := by
 obtain ⟨R, hR⟩ : ∃ R, R = decide (u = false ∨ (0 ≤ n ∧ n ≤ m)) := ⟨_, rfl⟩
 rw [← hR]
 refine wordsN ?_; unhygienic intros
 refine fn_body (fn := Tryz.f76) (n := 18) (ac := Tryzc76) (rvs := [.t 6]) rfl (by decide) Tryzp76 rfl rfl rfl ?_
 refine goA 0 ?_
 refine nsB hX (by conv => lhs; cbv) ?_
 refine goA 60 ?_
 refine fn_ret rfl rfl (.val ?_)
 exact congrArg Value.bool (by rw [hR, Bool.eq_iff_iff]; simp [ee])
theorem P_unused (u : Bool) (n : Int) : PCall EE 78 [bool u, int n] (bool (decide (u = true ∨ n = 0))) := by
 obtain ⟨R, hR⟩ : ∃ R, R = decide (u = true ∨ n = 0) := ⟨_, rfl⟩
 rw [← hR]
 refine wordsN ?_; unhygienic intros
 refine fn_body (fn := Tryz.f78) (n := 10) (ac := Tryzc78) (rvs := [.t 4]) rfl (by decide) Tryzp78 rfl rfl rfl ?_
 refine goA 60 ?_
 refine fn_ret rfl rfl (.val ?_)
 exact congrArg Value.bool (by rw [hR, Bool.eq_iff_iff]; simp [ee])
def Ex0 : Ex := .mk 0 [] 0 0 0 Vl0
noncomputable def Pat.nodeE (p : Pat) : Int := open Classical in
 if p.op < 0 ∨ 11 ≤ p.op then 1
 else if (p.args.length : Int) < leastF p.op ∨ mostF p.op < p.args.length then 15
 else if (typedF p.op = true ∧ (p.ty < 0 ∨ 15 < p.ty ∨ p.var < 0 ∨ 15 < p.var)) ∨ (scopeF p.op = true ∧ (p.scope < 0 ∨ 63 < p.scope)) ∨ (spanF p.op = true ∧ (p.span < 0 ∨ 1099511627776 < p.span)) then 2
 else if condF p.op = true ∧ p.cond.chk ≠ 0 then p.cond.chk
 else if (condF p.op = false ∧ p.cond ≠ Ex0) ∨ (typedF p.op = false ∧ (p.ty ≠ 0 ∨ p.var ≠ 0)) ∨ (scopeF p.op = false ∧ p.scope ≠ 0) ∨ (spanF p.op = false ∧ p.span ≠ 0) then 3
 else 0
theorem Ex0.enc_eq : Ex0.enc = .agg [int 0, .isl 8 [], int 0, int 0, int 0, int 0, int 0, str ⟨#[]⟩] := by
 rw [Ex0, Ex.enc_mk, mapE_eq]; rfl
theorem nil_ex0 : WkL 0 [.agg [int 0, .val (.slice none 0 0), int 0, int 0, int 0, int 0, int 0, str ⟨#[]⟩]] [Ex0.enc] := by
 rw [Ex0.enc_eq]
 exact ⟨.agg' ⟨.refl _, .nilI 8, .refl _, .refl _, .refl _, .refl _, .refl _, .refl _, trivial⟩, trivial⟩
theorem P_check (p : Pat) (hs : p.Sm) : PCall EE 54 [p.enc] (int p.nodeE) := by
 have hlen : p.args.length < 1048576 := by obtain ⟨o, a, t, v, s, n, c⟩ := p; exact hs.len
 have hck := P_expr_Check p.cond hs.cond'
 have hsm : PCall EE 60 [p.cond.enc, .agg [int 0, .val (.slice none 0 0), int 0, int 0, int 0, int 0, int 0, str ⟨#[]⟩]] (bool (eqB p.cond Ex0)) := (P_expr_Same p.cond Ex0 hs.cond').weak ⟨.refl _, nil_ex0⟩
 obtain ⟨sB, hsB⟩ : ∃ b, b = eqB p.cond Ex0 := ⟨_, rfl⟩
 have hsB2 : sB = true ↔ p.cond = Ex0 := by rw [hsB]; exact eqB_iff
 rw [← hsB] at hsm
 have hcl := Pat.closed p
 have hclc := Ex.closed p.cond
 obtain ⟨R, hR⟩ : ∃ R, R = p.nodeE := ⟨_, rfl⟩
 rw [← hR]
 unfold Pat.nodeE at hR
 generalize p.cond.chk = ce at *
 have hrow := @shape_row p.op
 generalize leastF p.op = lo at *
 generalize mostF p.op = mo at *
 generalize typedF p.op = ty at *
 generalize condF p.op = cd at *
 generalize scopeF p.op = sc at *
 generalize spanF p.op = sp at *
 obtain ⟨b1, e1, w1⟩ : ∃ b, (b = true ↔ ty = false ∨ 0 ≤ p.ty ∧ p.ty ≤ 15) ∧ PCall EE 76 [bool ty, int p.ty, int 15] (bool b) := ⟨_, decide_eq_true_iff, P_within _ _ _⟩
 obtain ⟨b2, e2, w2⟩ : ∃ b, (b = true ↔ ty = false ∨ 0 ≤ p.var ∧ p.var ≤ 15) ∧ PCall EE 76 [bool ty, int p.var, int 15] (bool b) := ⟨_, decide_eq_true_iff, P_within _ _ _⟩
 obtain ⟨b3, e3, w3⟩ : ∃ b, (b = true ↔ sc = false ∨ 0 ≤ p.scope ∧ p.scope ≤ 63) ∧ PCall EE 76 [bool sc, int p.scope, int 63] (bool b) := ⟨_, decide_eq_true_iff, P_within _ _ _⟩
 obtain ⟨b4, e4, w4⟩ : ∃ b, (b = true ↔ sp = false ∨ 0 ≤ p.span ∧ p.span ≤ 1099511627776) ∧ PCall EE 76 [bool sp, int p.span, int 1099511627776] (bool b) := ⟨_, decide_eq_true_iff, P_within _ _ _⟩
 obtain ⟨u1, f1, v1⟩ : ∃ b, (b = true ↔ ty = true ∨ p.ty = 0) ∧ PCall EE 78 [bool ty, int p.ty] (bool b) := ⟨_, decide_eq_true_iff, P_unused _ _⟩
 obtain ⟨u2, f2, v2⟩ : ∃ b, (b = true ↔ ty = true ∨ p.var = 0) ∧ PCall EE 78 [bool ty, int p.var] (bool b) := ⟨_, decide_eq_true_iff, P_unused _ _⟩
 obtain ⟨u3, f3, v3⟩ : ∃ b, (b = true ↔ sc = true ∨ p.scope = 0) ∧ PCall EE 78 [bool sc, int p.scope] (bool b) := ⟨_, decide_eq_true_iff, P_unused _ _⟩
 obtain ⟨u4, f4, v4⟩ : ∃ b, (b = true ↔ sp = true ∨ p.span = 0) ∧ PCall EE 78 [bool sp, int p.span] (bool b) := ⟨_, decide_eq_true_iff, P_unused _ _⟩
 have hR1 : (p.op < 0 ∨ 11 ≤ p.op) → R = 1 := fun h => by rw [hR, if_pos h]
 have hR15 : ¬(p.op < 0 ∨ 11 ≤ p.op) → ((p.args.length : Int) < lo ∨ mo < p.args.length) → R = 15 := fun h h2 => by rw [hR, if_neg h, if_pos h2]
 have hR2 : ¬(p.op < 0 ∨ 11 ≤ p.op) → ¬((p.args.length : Int) < lo ∨ mo < p.args.length) → (b1 = false ∨ b2 = false ∨ b3 = false ∨ b4 = false) → R = 2 := fun h h2 h3 => by
  rw [hR, if_neg h, if_neg h2, if_pos]
  clear hR hR1 hR15 hck hsm hrow w1 w2 w3 w4 v1 v2 v3 v4 f1 f2 f3 f4
  grind
 have hB : b1 = true → b2 = true → b3 = true → b4 = true → ¬((ty = true ∧ (p.ty < 0 ∨ 15 < p.ty ∨ p.var < 0 ∨ 15 < p.var)) ∨ (sc = true ∧ (p.scope < 0 ∨ 63 < p.scope)) ∨ (sp = true ∧ (p.span < 0 ∨ 1099511627776 < p.span))) := fun q1 q2 q3 q4 => by
  clear hR hR1 hR15 hR2 hck hsm hrow w1 w2 w3 w4 v1 v2 v3 v4 f1 f2 f3 f4
  grind
 have hRc : ¬(p.op < 0 ∨ 11 ≤ p.op) → ¬((p.args.length : Int) < lo ∨ mo < p.args.length) → b1 = true → b2 = true → b3 = true → b4 = true → cd = true → ce ≠ 0 → R = ce := fun h h2 q1 q2 q3 q4 h5 h6 => by
  rw [hR, if_neg h, if_neg h2, if_neg (hB q1 q2 q3 q4), if_pos ⟨h5, h6⟩]
 have hU : (cd = false ∧ sB = false ∨ u1 = false ∨ u2 = false ∨ u3 = false ∨ u4 = false) ↔ ((cd = false ∧ p.cond ≠ Ex0) ∨ (ty = false ∧ (p.ty ≠ 0 ∨ p.var ≠ 0)) ∨ (sc = false ∧ p.scope ≠ 0) ∨ (sp = false ∧ p.span ≠ 0)) := by
  clear hR hR1 hR15 hR2 hRc hB hck hsm hrow w1 w2 w3 w4 v1 v2 v3 v4 e1 e2 e3 e4
  rw [Bool.eq_false_iff (b := u1), Bool.eq_false_iff (b := u2), Bool.eq_false_iff (b := u3), Bool.eq_false_iff (b := u4), Bool.eq_false_iff (b := sB), ne_eq, ne_eq, ne_eq, ne_eq, ne_eq, f1, f2, f3, f4, hsB2]
  cases cd <;> cases ty <;> cases sc <;> cases sp <;> simp [or_assoc]
 have hR3 : ¬(p.op < 0 ∨ 11 ≤ p.op) → ¬((p.args.length : Int) < lo ∨ mo < p.args.length) → b1 = true → b2 = true → b3 = true → b4 = true → (cd = true → ce = 0) → (cd = false ∧ sB = false ∨ u1 = false ∨ u2 = false ∨ u3 = false ∨ u4 = false) → R = 3 := fun h h2 q1 q2 q3 q4 h5 h6 => by
  rw [hR, if_neg h, if_neg h2, if_neg (hB q1 q2 q3 q4), if_neg (fun hh => hh.2 (h5 hh.1)), if_pos (hU.1 h6)]
 have hR0 : ¬(p.op < 0 ∨ 11 ≤ p.op) → ¬((p.args.length : Int) < lo ∨ mo < p.args.length) → b1 = true → b2 = true → b3 = true → b4 = true → (cd = true → ce = 0) → ¬(cd = false ∧ sB = false ∨ u1 = false ∨ u2 = false ∨ u3 = false ∨ u4 = false) → R = 0 := fun h h2 q1 q2 q3 q4 h5 h6 => by
  rw [hR, if_neg h, if_neg h2, if_neg (hB q1 q2 q3 q4), if_neg (fun hh => hh.2 (h5 hh.1)), if_neg (fun hh => h6 (hU.2 hh))]
 clear hsB hs hR hB hU hsB2 e1 e2 e3 e4 f1 f2 f3 f4
 obtain ⟨pO, pA, pT, pV, pS, pN, pCo, pCa, pCv, pCf, pCk, pXk, pXn, pXt, hx, hxc, hpO, hpA, hpT, hpV, hpS, hpN⟩ := Pat.form2 p
 rw [hx] at hcl ⊢
 rw [hxc] at hck hsm hclc
 simp only [← hpO, ← hpT, ← hpV, ← hpS, ← hpN] at *
 refine wordsN ?_; unhygienic intros
 have hel : pA.length = p.args.length := by rw [hpA, mapE_len]
 generalize p.args.length = al at *
 clear hpA hx hxc hpO hpT hpV hpS hpN
 refine fn_body (fn := Tryz.f54) (n := 113) (ac := Tryzc54) (rvs := [.t 2]) rfl (by decide) Tryzp54 rfl rfl rfl ?_
 by_cases h0 : pO < 0 ∨ 11 ≤ pO
 · have hR := hR1 h0
   have hk : bOr (iLt pO 0) (iLe 11 pO) = true := by simp only [ee]; simpa using h0
   refine goB hX 0 (by conv => lhs; cbv; try simp only [hk]; cbv; try simp only [hk]; cbv; try simp only [hk]; cbv; try simp only [hk]; cbv) ?_
   refine goA 60 ?_
   refine fn_ret rfl rfl (.val ?_)
   exact congrArg (Value.int .i64) hR.symm
 have h1 : 0 ≤ pO := by omega
 have h2 : pO < 11 := by omega
 have k1 : iLt pO 0 = false := by simp only [ee]; simp; omega
 have k2 : iLe 11 pO = false := by simp only [ee]; simp; omega
 have hrow := hrow h1 h2
 have hR15 := hR15 h0
 have hR2 := hR2 h0
 have hRc := hRc h0
 have hR3 := hR3 h0
 have hR0 := hR0 h0
 have hrw : rowA (Classical.choice tabBox_ne).g pO 6 = [int lo, int mo, bool ty, bool cd, bool sc, bool sp] := by rw [e_rowA]; exact hrow
 clear hrow hR1
 cases cd with
 | true =>
  refine goB hX 0 (by conv => lhs; cbv; try simp only [k1, k2, hrw]; cbv; try simp only [k1, k2, hrw]; cbv; try simp only [k1, k2, hrw]; cbv; try simp only [k1, k2, hrw]; cbv) ?_
  refine on_cond rfl (fun c1 => ?_) (fun c1 => ?_)
  ·
   simp [ee] at c1
  ·
   simp [ee] at c1
   refine goB hX 0 (by conv => lhs; cbv; try simp only [k1, k2, hrw]; cbv; try simp only [k1, k2, hrw]; cbv; try simp only [k1, k2, hrw]; cbv; try simp only [k1, k2, hrw]; cbv) ?_
   refine on_cond rfl (fun c2 => ?_) (fun c2 => ?_)
   ·
    simp [ee] at c2
    refine goA 60 ?_
    refine fn_ret rfl rfl (.val ?_)
    exact congrArg (Value.int .i64) (hR15 (by omega)).symm
   ·
    simp [ee] at c2
    refine goA 60 ?_
    refine oPA w1 ?_
    refine goB hX 0 (by conv => lhs; cbv; try simp only [k1, k2, hrw]; cbv; try simp only [k1, k2, hrw]; cbv; try simp only [k1, k2, hrw]; cbv; try simp only [k1, k2, hrw]; cbv) ?_
    refine on_guard rfl rfl (fun c3 => ?_) (fun c3 => ?_)
    ·
     simp [ee] at c3
     refine goA 60 ?_
     refine on_gskip rfl rfl ?_
     refine goA 60 ?_
     refine on_gskip rfl rfl ?_
     refine goA 60 ?_
     refine on_gskip rfl rfl ?_
     refine goA 60 ?_
     refine fn_ret rfl rfl (.val ?_)
     exact congrArg (Value.int .i64) (hR2 (by omega) (by simp [*])).symm
    ·
     simp [ee] at c3
     refine goA 60 ?_
     refine oPG w2 ?_
     refine goB hX 0 (by conv => lhs; cbv; try simp only [k1, k2, hrw]; cbv; try simp only [k1, k2, hrw]; cbv; try simp only [k1, k2, hrw]; cbv; try simp only [k1, k2, hrw]; cbv) ?_
     refine on_guard rfl rfl (fun c4 => ?_) (fun c4 => ?_)
     ·
      simp [ee] at c4
      refine goA 60 ?_
      refine on_gskip rfl rfl ?_
      refine goA 60 ?_
      refine on_gskip rfl rfl ?_
      refine goA 60 ?_
      refine fn_ret rfl rfl (.val ?_)
      exact congrArg (Value.int .i64) (hR2 (by omega) (by simp [*])).symm
     ·
      simp [ee] at c4
      refine goA 60 ?_
      refine oPG w3 ?_
      refine goB hX 0 (by conv => lhs; cbv; try simp only [k1, k2, hrw]; cbv; try simp only [k1, k2, hrw]; cbv; try simp only [k1, k2, hrw]; cbv; try simp only [k1, k2, hrw]; cbv) ?_
      refine on_guard rfl rfl (fun c5 => ?_) (fun c5 => ?_)
      ·
       simp [ee] at c5
       refine goA 60 ?_
       refine on_gskip rfl rfl ?_
       refine goA 60 ?_
       refine fn_ret rfl rfl (.val ?_)
       exact congrArg (Value.int .i64) (hR2 (by omega) (by simp [*])).symm
      ·
       simp [ee] at c5
       refine goA 60 ?_
       refine oPG w4 ?_
       refine goB hX 0 (by conv => lhs; cbv; try simp only [k1, k2, hrw]; cbv; try simp only [k1, k2, hrw]; cbv; try simp only [k1, k2, hrw]; cbv; try simp only [k1, k2, hrw]; cbv) ?_
       refine on_cond rfl (fun c6 => ?_) (fun c6 => ?_)
       ·
        simp [ee] at c6
        refine goA 60 ?_
        refine fn_ret rfl rfl (.val ?_)
        exact congrArg (Value.int .i64) (hR2 (by omega) (by simp [*])).symm
       ·
        simp [ee] at c6
        refine goA 60 ?_
        refine oPA hck ?_
        refine goB hX 0 (by conv => lhs; cbv; try simp only [k1, k2, hrw]; cbv; try simp only [k1, k2, hrw]; cbv; try simp only [k1, k2, hrw]; cbv; try simp only [k1, k2, hrw]; cbv) ?_
        refine on_cond rfl (fun c7 => ?_) (fun c7 => ?_)
        ·
         simp [ee] at c7
         refine goA 60 ?_
         refine fn_ret rfl rfl (.val ?_)
         exact congrArg (Value.int .i64) (hRc (by omega) (by assumption) (by assumption) (by assumption) (by assumption) rfl (by assumption)).symm
        ·
         simp [ee] at c7
         refine goB hX 0 (by conv => lhs; cbv; try simp only [k1, k2, hrw]; cbv; try simp only [k1, k2, hrw]; cbv; try simp only [k1, k2, hrw]; cbv; try simp only [k1, k2, hrw]; cbv) ?_
         refine on_guard rfl rfl (fun c8 => ?_) (fun c8 => ?_)
         ·
          simp [ee] at c8
         ·
          simp [ee] at c8
          refine goA 60 ?_
          refine on_gskip rfl rfl ?_
          refine goA 60 ?_
          refine oPG v1 ?_
          refine goB hX 0 (by conv => lhs; cbv; try simp only [k1, k2, hrw]; cbv; try simp only [k1, k2, hrw]; cbv; try simp only [k1, k2, hrw]; cbv; try simp only [k1, k2, hrw]; cbv) ?_
          refine on_guard rfl rfl (fun c9 => ?_) (fun c9 => ?_)
          ·
           simp [ee] at c9
           refine goA 60 ?_
           refine on_gskip rfl rfl ?_
           refine goA 60 ?_
           refine on_gskip rfl rfl ?_
           refine goA 60 ?_
           refine on_gskip rfl rfl ?_
           refine goA 60 ?_
           refine fn_ret rfl rfl (.val ?_)
           exact congrArg (Value.int .i64) (hR3 (by omega) (by assumption) (by assumption) (by assumption) (by assumption) (fun _ => by assumption) (by simp [*])).symm
          ·
           simp [ee] at c9
           refine goA 60 ?_
           refine oPG v2 ?_
           refine goB hX 0 (by conv => lhs; cbv; try simp only [k1, k2, hrw]; cbv; try simp only [k1, k2, hrw]; cbv; try simp only [k1, k2, hrw]; cbv; try simp only [k1, k2, hrw]; cbv) ?_
           refine on_guard rfl rfl (fun c10 => ?_) (fun c10 => ?_)
           ·
            simp [ee] at c10
            refine goA 60 ?_
            refine on_gskip rfl rfl ?_
            refine goA 60 ?_
            refine on_gskip rfl rfl ?_
            refine goA 60 ?_
            refine fn_ret rfl rfl (.val ?_)
            exact congrArg (Value.int .i64) (hR3 (by omega) (by assumption) (by assumption) (by assumption) (by assumption) (fun _ => by assumption) (by simp [*])).symm
           ·
            simp [ee] at c10
            refine goA 60 ?_
            refine oPG v3 ?_
            refine goB hX 0 (by conv => lhs; cbv; try simp only [k1, k2, hrw]; cbv; try simp only [k1, k2, hrw]; cbv; try simp only [k1, k2, hrw]; cbv; try simp only [k1, k2, hrw]; cbv) ?_
            refine on_guard rfl rfl (fun c11 => ?_) (fun c11 => ?_)
            ·
             simp [ee] at c11
             refine goA 60 ?_
             refine on_gskip rfl rfl ?_
             refine goA 60 ?_
             refine fn_ret rfl rfl (.val ?_)
             exact congrArg (Value.int .i64) (hR3 (by omega) (by assumption) (by assumption) (by assumption) (by assumption) (fun _ => by assumption) (by simp [*])).symm
            ·
             simp [ee] at c11
             refine goA 60 ?_
             refine oPG v4 ?_
             refine goB hX 0 (by conv => lhs; cbv; try simp only [k1, k2, hrw]; cbv; try simp only [k1, k2, hrw]; cbv; try simp only [k1, k2, hrw]; cbv; try simp only [k1, k2, hrw]; cbv) ?_
             refine on_cond rfl (fun c12 => ?_) (fun c12 => ?_)
             ·
              simp [ee] at c12
              refine goA 60 ?_
              refine fn_ret rfl rfl (.val ?_)
              exact congrArg (Value.int .i64) (hR3 (by omega) (by assumption) (by assumption) (by assumption) (by assumption) (fun _ => by assumption) (by simp [*])).symm
             ·
              simp [ee] at c12
              refine goA 60 ?_
              refine fn_ret rfl rfl (.val ?_)
              exact congrArg (Value.int .i64) (hR0 (by omega) (by assumption) (by assumption) (by assumption) (by assumption) (fun _ => by assumption) (by simp [*])).symm
 | false =>
  refine goB hX 0 (by conv => lhs; cbv; try simp only [k1, k2, hrw]; cbv; try simp only [k1, k2, hrw]; cbv; try simp only [k1, k2, hrw]; cbv; try simp only [k1, k2, hrw]; cbv) ?_
  refine on_cond rfl (fun c1 => ?_) (fun c1 => ?_)
  ·
   simp [ee] at c1
  ·
   simp [ee] at c1
   refine goB hX 0 (by conv => lhs; cbv; try simp only [k1, k2, hrw]; cbv; try simp only [k1, k2, hrw]; cbv; try simp only [k1, k2, hrw]; cbv; try simp only [k1, k2, hrw]; cbv) ?_
   refine on_cond rfl (fun c2 => ?_) (fun c2 => ?_)
   ·
    simp [ee] at c2
    refine goA 60 ?_
    refine fn_ret rfl rfl (.val ?_)
    exact congrArg (Value.int .i64) (hR15 (by omega)).symm
   ·
    simp [ee] at c2
    refine goA 60 ?_
    refine oPA w1 ?_
    refine goB hX 0 (by conv => lhs; cbv; try simp only [k1, k2, hrw]; cbv; try simp only [k1, k2, hrw]; cbv; try simp only [k1, k2, hrw]; cbv; try simp only [k1, k2, hrw]; cbv) ?_
    refine on_guard rfl rfl (fun c3 => ?_) (fun c3 => ?_)
    ·
     simp [ee] at c3
     refine goA 60 ?_
     refine on_gskip rfl rfl ?_
     refine goA 60 ?_
     refine on_gskip rfl rfl ?_
     refine goA 60 ?_
     refine on_gskip rfl rfl ?_
     refine goA 60 ?_
     refine fn_ret rfl rfl (.val ?_)
     exact congrArg (Value.int .i64) (hR2 (by omega) (by simp [*])).symm
    ·
     simp [ee] at c3
     refine goA 60 ?_
     refine oPG w2 ?_
     refine goB hX 0 (by conv => lhs; cbv; try simp only [k1, k2, hrw]; cbv; try simp only [k1, k2, hrw]; cbv; try simp only [k1, k2, hrw]; cbv; try simp only [k1, k2, hrw]; cbv) ?_
     refine on_guard rfl rfl (fun c4 => ?_) (fun c4 => ?_)
     ·
      simp [ee] at c4
      refine goA 60 ?_
      refine on_gskip rfl rfl ?_
      refine goA 60 ?_
      refine on_gskip rfl rfl ?_
      refine goA 60 ?_
      refine fn_ret rfl rfl (.val ?_)
      exact congrArg (Value.int .i64) (hR2 (by omega) (by simp [*])).symm
     ·
      simp [ee] at c4
      refine goA 60 ?_
      refine oPG w3 ?_
      refine goB hX 0 (by conv => lhs; cbv; try simp only [k1, k2, hrw]; cbv; try simp only [k1, k2, hrw]; cbv; try simp only [k1, k2, hrw]; cbv; try simp only [k1, k2, hrw]; cbv) ?_
      refine on_guard rfl rfl (fun c5 => ?_) (fun c5 => ?_)
      ·
       simp [ee] at c5
       refine goA 60 ?_
       refine on_gskip rfl rfl ?_
       refine goA 60 ?_
       refine fn_ret rfl rfl (.val ?_)
       exact congrArg (Value.int .i64) (hR2 (by omega) (by simp [*])).symm
      ·
       simp [ee] at c5
       refine goA 60 ?_
       refine oPG w4 ?_
       refine goB hX 0 (by conv => lhs; cbv; try simp only [k1, k2, hrw]; cbv; try simp only [k1, k2, hrw]; cbv; try simp only [k1, k2, hrw]; cbv; try simp only [k1, k2, hrw]; cbv) ?_
       refine on_cond rfl (fun c6 => ?_) (fun c6 => ?_)
       ·
        simp [ee] at c6
        refine goA 60 ?_
        refine fn_ret rfl rfl (.val ?_)
        exact congrArg (Value.int .i64) (hR2 (by omega) (by simp [*])).symm
       ·
        simp [ee] at c6
        refine goB hX 0 (by conv => lhs; cbv; try simp only [k1, k2, hrw]; cbv; try simp only [k1, k2, hrw]; cbv; try simp only [k1, k2, hrw]; cbv; try simp only [k1, k2, hrw]; cbv) ?_
        refine goB hX 1 (by conv => lhs; cbv; try simp only [k1, k2, hrw]; cbv; try simp only [k1, k2, hrw]; cbv; try simp only [k1, k2, hrw]; cbv; try simp only [k1, k2, hrw]; cbv) ?_
        refine on_guard rfl rfl (fun c7 => ?_) (fun c7 => ?_)
        ·
         simp [ee] at c7
         refine goA 60 ?_
         refine oPG hsm ?_
         refine goB hX 0 (by conv => lhs; cbv; try simp only [k1, k2, hrw]; cbv; try simp only [k1, k2, hrw]; cbv; try simp only [k1, k2, hrw]; cbv; try simp only [k1, k2, hrw]; cbv) ?_
         refine on_guard rfl rfl (fun c8 => ?_) (fun c8 => ?_)
         ·
          simp [ee] at c8
          refine goA 60 ?_
          refine on_gskip rfl rfl ?_
          refine goA 60 ?_
          refine on_gskip rfl rfl ?_
          refine goA 60 ?_
          refine on_gskip rfl rfl ?_
          refine goA 60 ?_
          refine on_gskip rfl rfl ?_
          refine goA 60 ?_
          refine fn_ret rfl rfl (.val ?_)
          exact congrArg (Value.int .i64) (hR3 (by omega) (by assumption) (by assumption) (by assumption) (by assumption) (fun h => by cases h) (by simp [*])).symm
         ·
          simp [ee] at c8
          refine goA 60 ?_
          refine oPG v1 ?_
          refine goB hX 0 (by conv => lhs; cbv; try simp only [k1, k2, hrw]; cbv; try simp only [k1, k2, hrw]; cbv; try simp only [k1, k2, hrw]; cbv; try simp only [k1, k2, hrw]; cbv) ?_
          refine on_guard rfl rfl (fun c9 => ?_) (fun c9 => ?_)
          ·
           simp [ee] at c9
           refine goA 60 ?_
           refine on_gskip rfl rfl ?_
           refine goA 60 ?_
           refine on_gskip rfl rfl ?_
           refine goA 60 ?_
           refine on_gskip rfl rfl ?_
           refine goA 60 ?_
           refine fn_ret rfl rfl (.val ?_)
           exact congrArg (Value.int .i64) (hR3 (by omega) (by assumption) (by assumption) (by assumption) (by assumption) (fun h => by cases h) (by simp [*])).symm
          ·
           simp [ee] at c9
           refine goA 60 ?_
           refine oPG v2 ?_
           refine goB hX 0 (by conv => lhs; cbv; try simp only [k1, k2, hrw]; cbv; try simp only [k1, k2, hrw]; cbv; try simp only [k1, k2, hrw]; cbv; try simp only [k1, k2, hrw]; cbv) ?_
           refine on_guard rfl rfl (fun c10 => ?_) (fun c10 => ?_)
           ·
            simp [ee] at c10
            refine goA 60 ?_
            refine on_gskip rfl rfl ?_
            refine goA 60 ?_
            refine on_gskip rfl rfl ?_
            refine goA 60 ?_
            refine fn_ret rfl rfl (.val ?_)
            exact congrArg (Value.int .i64) (hR3 (by omega) (by assumption) (by assumption) (by assumption) (by assumption) (fun h => by cases h) (by simp [*])).symm
           ·
            simp [ee] at c10
            refine goA 60 ?_
            refine oPG v3 ?_
            refine goB hX 0 (by conv => lhs; cbv; try simp only [k1, k2, hrw]; cbv; try simp only [k1, k2, hrw]; cbv; try simp only [k1, k2, hrw]; cbv; try simp only [k1, k2, hrw]; cbv) ?_
            refine on_guard rfl rfl (fun c11 => ?_) (fun c11 => ?_)
            ·
             simp [ee] at c11
             refine goA 60 ?_
             refine on_gskip rfl rfl ?_
             refine goA 60 ?_
             refine fn_ret rfl rfl (.val ?_)
             exact congrArg (Value.int .i64) (hR3 (by omega) (by assumption) (by assumption) (by assumption) (by assumption) (fun h => by cases h) (by simp [*])).symm
            ·
             simp [ee] at c11
             refine goA 60 ?_
             refine oPG v4 ?_
             refine goB hX 0 (by conv => lhs; cbv; try simp only [k1, k2, hrw]; cbv; try simp only [k1, k2, hrw]; cbv; try simp only [k1, k2, hrw]; cbv; try simp only [k1, k2, hrw]; cbv) ?_
             refine on_cond rfl (fun c12 => ?_) (fun c12 => ?_)
             ·
              simp [ee] at c12
              refine goA 60 ?_
              refine fn_ret rfl rfl (.val ?_)
              exact congrArg (Value.int .i64) (hR3 (by omega) (by assumption) (by assumption) (by assumption) (by assumption) (fun h => by cases h) (by simp [*])).symm
             ·
              simp [ee] at c12
              refine goA 60 ?_
              refine fn_ret rfl rfl (.val ?_)
              exact congrArg (Value.int .i64) (hR0 (by omega) (by assumption) (by assumption) (by assumption) (by assumption) (fun h => by cases h) (by simp [*])).symm
        ·
         simp [ee] at c7
theorem firstE_zero {α : Type} {F : α → Int} {l : List α} (h : firstE F l = 0) : ∀ q ∈ l, F q = 0 := by
 induction l with
 | nil => intro q hq; cases hq
 | cons x r ih =>
  intro q hq
  rw [firstE] at h
  by_cases hx : F x = 0
  · rw [if_neg (by simpa using hx)] at h
    rcases List.mem_cons.1 hq with rfl | hq
    · exact hx
    · exact ih h q hq
  · rw [if_pos hx] at h; exact absurd h hx
theorem Ex.nodeE_var {q : Ex} (h : q.nodeE = 0) : usesV q.op = true → 0 ≤ q.var ∧ q.var < 16 := by
 intro hu
 unfold Ex.nodeE at h
 by_cases h1 : arityB q.op = false
 · rw [if_pos h1] at h; cases h
 rw [if_neg h1] at h
 by_cases h2 : (q.args.length : Int) ≠ arityN q.op
 · rw [if_pos h2] at h; cases h
 rw [if_neg h2] at h
 by_cases h3 : (usesV q.op = true ∧ (q.var < 0 ∨ 16 ≤ q.var)) ∨ (usesF q.op = true ∧ (q.fld < 0 ∨ 8 ≤ q.fld))
 · rw [if_pos h3] at h; cases h
 · exact ⟨Int.not_lt.1 fun hh => h3 (.inl ⟨hu, .inl hh⟩), Int.not_le.1 fun hh => h3 (.inl ⟨hu, .inr hh⟩)⟩
theorem Ex.chk_nodes {e : Ex} (h : e.chk = 0) : ∀ q ∈ e.nodes, q.nodeE = 0 := by
 unfold Ex.chk at h
 split at h
 · cases h
 · split at h
   · cases h
   · exact firstE_zero h
noncomputable def Ex.renErr (to : List Int) (e : Ex) : Int := if e.chk ≠ 0 then e.chk else firstE (renE to) e.nodes
noncomputable def Ex.rename (to : List Int) (e : Ex) : Ex := if e.renErr to = 0 then e.reb (renG to) else Ex0
theorem Ex0.form : Ex0.enc = .agg [int 0, .isl 8 [], int 0, int 0, int 0, int 0, int 0, str ⟨#[]⟩] := by rw [Ex0, Ex.enc_mk, mapE_eq]; rfl
theorem P_expr_Rename (to : List Int) (e : Ex) (hs : e.Sm) : PCall EE 62 [e.enc, .isl 1 (mapE int to)] (.tup [(e.rename to).enc, int (e.renErr to)]) := by
 have h1 := P_expr_Check e hs
 have hct := closedI_int to
 have hcts := closedL_int to
 have hctL : AV.closedL [.isl 1 (mapE int to)] = true := closed1 hct
 have hip : (AV.iptr [.isl 1 (mapE int to)]).closed = true := by simp only [closed_iptr, AV.closedL, Bool.and_true]; exact hct
 have hipL : AV.closedL [AV.iptr [.isl 1 (mapE int to)]] = true := closed1 hip
 have h2 := fun hk : e.chk = 0 => P_expr_visit 84 [.iptr [.isl 1 (mapE int to)]] hipL (renE to) e hs fun q hq => P_ren1 to q fun hu => (Ex.nodeE_var (Ex.chk_nodes hk q hq) hu).1
 have h3 := fun (hk : e.chk = 0) (hr : firstE (renE to) e.nodes = 0) => P_rebuilt 86 [.iptr [.isl 1 (mapE int to)]] hipL (renG to) (fun o v => usesV o = true → 0 ≤ v ∧ v < to.length) (fun q hq => P_ren2 to q hq) e hs fun q hq hu => ⟨(Ex.nodeE_var (Ex.chk_nodes hk q hq) hu).1, by
  have := firstE_zero hr q hq
  unfold renE at this
  rw [if_neg (by simp [hu])] at this
  by_cases hl : (to.length : Int) ≤ q.var
  · rw [if_pos hl] at this; cases this
  · omega⟩
 have hcl := Ex.closed e
 obtain ⟨R, hR⟩ : ∃ R, R = e.rename to := ⟨_, rfl⟩
 obtain ⟨R2, hR2⟩ : ∃ R, R = e.renErr to := ⟨_, rfl⟩
 rw [← hR, ← hR2]
 unfold Ex.rename at hR
 rw [← hR2] at hR
 unfold Ex.renErr at hR2
 generalize e.reb (renG to) = er at *
 generalize e.chk = ck at *
 generalize firstE (renE to) e.nodes = fe at *
 have hec := Ex.closed er
 obtain ⟨eO, eA, eV, eF, eK, eXk, eXn, eXt, hx⟩ := Ex.form e
 rw [hx] at h1 h2 h3 hcl ⊢
 have heA : (AV.isl 8 eA).closed = true := by have := hcl; simp [AV.closed, AV.closedL] at this ⊢; exact this
 refine wordsN ?_; unhygienic intros
 generalize mapE int to = ts at *
 refine fn_body (fn := Tryz.f62) (n := 24) (ac := Tryzc62) (rvs := [.cell 4 8 true, .t 5]) rfl (by decide) Tryzp62 rfl rfl rfl ?_
 by_cases g1 : ck = 0
 rotate_left
 · have k1 : iNe ck 0 = true := by simp only [ee]; simpa using g1
   rw [if_pos g1] at hR2
   rw [if_neg (by omega)] at hR
   rw [hR, hR2, Ex0.form]
   refine goA 60 ?_
   refine oPA h1 ?_
   refine goB hX 0 (by conv => lhs; cbv; try simp only [k1]; cbv; try simp only [k1]; cbv; try simp only [k1]; cbv; try simp only [k1]; cbv) ?_
   refine goA 60 ?_
   refine fn_ret rfl rfl ?_
   exact ⟨[.gone, .gone, .gone], ⟨trivial, trivial, trivial, trivial⟩, .tup' ⟨.agg' ⟨.refl _, .nilI _, .refl _, .refl _, .refl _, .refl _, .refl _, .refl _, trivial⟩, .refl _, trivial⟩⟩
 have k1 : iNe ck 0 = false := by simp only [ee]; simpa using g1
 rw [if_neg (by simpa using g1)] at hR2
 have h2 := h2 g1
 have h3 := h3 g1
 by_cases g2 : fe = 0
 rotate_left
 · have k2 : iNe fe 0 = true := by simp only [ee]; simpa using g2
   rw [if_neg (by omega)] at hR
   rw [hR, hR2, Ex0.form]
   refine goB hX 0 (by conv => lhs; cbv; try simp only [k1]; cbv; try simp only [k1]; cbv; try simp only [k1]; cbv; try simp only [k1]; cbv) ?_
   refine oPA h1 ?_
   refine goB hX 1 (by conv => lhs; cbv; try simp only [k1]; cbv; try simp only [k1]; cbv; try simp only [k1]; cbv; try simp only [k1]; cbv) ?_
   refine goB hX 1 (by conv => lhs; cbv; try simp only [k1]; cbv; try simp only [k1]; cbv; try simp only [k1]; cbv; try simp only [k1]; cbv) ?_
   refine on_entO (F' := [(14, .agg [int eO, .isl 8 eA, int eV, int eF, int eK, int eXk, int eXn, str eXt]), (15, .fn 84 [.iptr [.isl 1 ts]]), (4, .ptr 0 0)]) (H' := [.cells [int 0, .val (.slice none 0 0), int 0, int 0, int 0, int 0, int 0, str ⟨#[]⟩]]) ?_ ?_
   · exact (ent_sub [.gone, .icells ([AV.isl 1 ts]), .to 0] [some 2] ⟨trivial, ⟨_, rfl, (subL_closed _ hctL).symm⟩, ⟨by simp, rfl⟩, trivial⟩ ⟨osrc_cells (b := 2) rfl rfl rfl ⟨.refl _, .refl _, .refl _, .refl _, .refl _, .refl _, .refl _, .refl _, trivial⟩, trivial⟩ ⟨.cl hcl, .refl _, .refl _, trivial⟩)
   refine oPA h2 ?_
   refine goB hX 0 (by conv => lhs; cbv; try simp only [k2]; cbv; try simp only [k2]; cbv; try simp only [k2]; cbv; try simp only [k2]; cbv) ?_
   refine goA 60 ?_
   refine fn_ret rfl rfl ?_
   exact ⟨[.gone], ⟨trivial, trivial⟩, .tup' ⟨.agg' ⟨.refl _, .nilI _, .refl _, .refl _, .refl _, .refl _, .refl _, .refl _, trivial⟩, .refl _, trivial⟩⟩
 have k2 : iNe fe 0 = false := by simp only [ee]; simpa using g2
 have h3 := h3 g2
 rw [if_pos (by omega)] at hR
 rw [hR, hR2, g2]
 obtain ⟨erO, erA, erV, erF, erK, erXk, erXn, erXt, hxr⟩ := Ex.form er
 rw [hxr] at h3 hec ⊢
 refine goB hX 0 (by conv => lhs; cbv; try simp only [k1]; cbv; try simp only [k1]; cbv; try simp only [k1]; cbv; try simp only [k1]; cbv) ?_
 refine oPA h1 ?_
 refine goB hX 1 (by conv => lhs; cbv; try simp only [k1]; cbv; try simp only [k1]; cbv; try simp only [k1]; cbv; try simp only [k1]; cbv) ?_
 refine goB hX 1 (by conv => lhs; cbv; try simp only [k1]; cbv; try simp only [k1]; cbv; try simp only [k1]; cbv; try simp only [k1]; cbv) ?_
 refine on_entO (F' := [(14, .agg [int eO, .isl 8 eA, int eV, int eF, int eK, int eXk, int eXn, str eXt]), (15, .fn 84 [.iptr [.isl 1 ts]]), (3, .iptr [.isl 1 ts]), (4, .ptr 0 0), (2, .ptr 1 0)]) (H' := [.cells [int 0, .val (.slice none 0 0), int 0, int 0, int 0, int 0, int 0, str ⟨#[]⟩], .cells [int eO, .isl 8 eA, int eV, int eF, int eK, int eXk, int eXn, str eXt]]) ?_ ?_
 · exact (ent_sub [.to 1, .icells ([AV.isl 1 ts]), .to 0] [some 2, some 0] ⟨⟨by simp, rfl⟩, ⟨_, rfl, (subL_closed _ hctL).symm⟩, ⟨by simp, rfl⟩, trivial⟩ ⟨osrc_cells (b := 2) rfl rfl rfl ⟨.refl _, .refl _, .refl _, .refl _, .refl _, .refl _, .refl _, .refl _, trivial⟩, osrc_cells (b := 0) rfl rfl rfl ⟨.refl _, .cl heA, .refl _, .refl _, .refl _, .refl _, .refl _, .refl _, trivial⟩, trivial⟩ ⟨.cl hcl, .refl _, .refl _, .refl _, .refl _, trivial⟩)
 refine oPA h2 ?_
 refine goB hX 0 (by conv => lhs; cbv; try simp only [k2]; cbv; try simp only [k2]; cbv; try simp only [k2]; cbv; try simp only [k2]; cbv) ?_
 refine goA 60 ?_
 refine oPA h3 ?_
 refine goA 60 ?_
 refine fn_ret rfl rfl ?_
 exact ⟨[.gone, .gone], ⟨trivial, trivial, trivial⟩, .tup' ⟨.cl hec, .refl _, trivial⟩⟩
mutual
noncomputable def Pat.ren (to : List Int) : Pat → Pat
 | .mk o a t v s n c => .mk o (Pat.renL to a) t (if typedF o then to.getD v.toNat 0 else v) s n (if condF o then c.rename to else c)
noncomputable def Pat.renL (to : List Int) : List Pat → List Pat
 | [] => []
 | e :: r => e.ren to :: Pat.renL to r
end
theorem Pat.renL_append (to : List Int) (a b : List Pat) : Pat.renL to (a ++ b) = Pat.renL to a ++ Pat.renL to b := by
 induction a with
 | nil => rw [Pat.renL]; rfl
 | cons x r ih => rw [List.cons_append, Pat.renL, Pat.renL, ih]; rfl
theorem Pat.renL_len (to : List Int) (a : List Pat) : (Pat.renL to a).length = a.length := by
 induction a with
 | nil => rw [Pat.renL]
 | cons x r ih => rw [Pat.renL]; simp [ih]
def Pat.renOk (to : List Int) (q : Pat) : Prop := 0 ≤ q.op ∧ q.op < 11 ∧ (typedF q.op = true → 0 ≤ q.var ∧ q.var < to.length)
theorem fill_next {w : List AV} {d r : List AV} {x y z : AV} {j : Nat} (hw : w = d ++ List.replicate (r.length + 1) z) (hj : j = d.length) : w.set j y = (d ++ [y]) ++ List.replicate r.length z := by
 subst hw hj
 rw [List.set_append_right _ _ (Nat.le_refl _), Nat.sub_self, List.replicate_succ]
 simp
theorem P_renamed (to : List Int) : ∀ p : Pat, p.Sm → (∀ q ∈ p.nodes, q.renOk to) → PCall EE 44 [p.enc, .isl 1 (mapE int to)] (p.ren to).enc := by
 refine Pat.ind ?_
 intro o a t v s n c ih hs hF
 have hlen := hs.len
 have hih : ∀ q ∈ a, PCall EE 44 [q.enc, .isl 1 (mapE int to)] (q.ren to).enc := fun q hq => ih q hq (hs.arg hq) fun q2 hq2 => hF q2 (by
  rw [Pat.nodes]
  obtain ⟨d, r, rfl⟩ := List.append_of_mem hq
  simp [Pat.nodesL_append, Pat.nodesL, hq2])
 obtain ⟨ho0, ho1, hov⟩ := hF (.mk o a t v s n c) (by rw [Pat.nodes]; simp)
 simp only [Pat.op, Pat.var] at ho0 ho1 hov
 have hrow := shape_row ho0 ho1
 have hrn := P_expr_Rename to c hs.cond
 generalize c.renErr to = rne at hrn
 have hcl := Pat.closedI a
 have hct := closedI_int to
 have hcts := closedL_int to
 rw [Pat.ren]
 obtain ⟨nv, hnv⟩ : ∃ z, z = (if typedF o then to.getD v.toNat 0 else v) := ⟨_, rfl⟩
 obtain ⟨nc, hnc⟩ : ∃ z, z = (if condF o then c.rename to else c) := ⟨_, rfl⟩
 rw [← hnv, ← hnc]
 have hncc := Ex.closed nc
 have hccc := Ex.closed c
 have hrc := Ex.closed (c.rename to)
 have hnv1 : typedF o = true → nv = to.getD v.toNat 0 := fun h => by rw [hnv, if_pos h]
 have hnv2 : typedF o = false → nv = v := fun h => by rw [hnv, if_neg (by simp [h])]
 have hnc1 : condF o = true → c.rename to = nc := fun h => by rw [hnc, if_pos h]
 have hnc2 : condF o = false → c = nc := fun h => by rw [hnc, if_neg (by simp [h])]
 generalize c.rename to = cr at *
 clear hnv hnc ih hF
 obtain ⟨ncO, ncA, ncV, ncF, ncK, ncXk, ncXn, ncXt⟩ := nc
 obtain ⟨co, ca, cv, cf, ck, xk, xn, xt⟩ := c
 rw [Pat.enc_mk, Pat.enc_mk]
 have hrle : (mapE Pat.enc (Pat.renL to a)).length = a.length := by rw [mapE_len, Pat.renL_len]
 have hnil : mapE Pat.enc [] = [] := by rw [mapE_eq]; rfl
 have hfin := Pat.closedL (Pat.renL to a)
 obtain ⟨F, hFin⟩ : ∃ F, F = mapE Pat.enc (Pat.renL to a) := ⟨_, rfl⟩
 rw [← hFin] at hrle hfin ⊢
 have hncI : (AV.isl 8 (mapE Ex.enc ncA)).closed = true := Ex.closedI ncA
 have hcaI : (AV.isl 8 (mapE Ex.enc ca)).closed = true := Ex.closedI ca
 rw [Ex.enc_mk] at hrn hncc hccc
 dsimp only at hrn hncc hccc ⊢
 refine wordsN ?_; unhygienic intros
 generalize hes : mapE Pat.enc a = es at *
 generalize hec : mapE Ex.enc ca = eca at *
 generalize hea : mapE Ex.enc ncA = encA' at *
 generalize hts : mapE int to = ts at *
 have hel : es.length = a.length := by rw [← hes, mapE_len]
 have htl : ts.length = to.length := by rw [← hts, mapE_len]
 have hrw : rowA (Classical.choice tabBox_ne).g o 6 = [int (leastF o), int (mostF o), bool (typedF o), bool (condF o), bool (scopeF o), bool (spanF o)] := by rw [e_rowA]; exact hrow
 have hat : typedF o = true → atA ts v = int nv := fun h => by
  have hv := hov h
  rw [hnv1 h]
  simp only [ee]
  rw [← hts, mapE_eq, List.getD_eq_getElem?_getD, List.getElem?_map, List.getD_eq_getElem?_getD, List.getElem?_eq_getElem (by omega)]; rfl
 generalize leastF o = lo at *
 generalize mostF o = mo at *
 generalize typedF o = ty at *
 generalize condF o = cd at *
 generalize scopeF o = sc at *
 generalize spanF o = sp at *
 clear hrow
 refine fn_body (fn := Tryz.f44) (n := 53) (ac := Tryzc44) (rvs := [.cell 4 14 true]) rfl (by decide) Tryzp44 rfl rfl rfl ?_
 refine goB hX 0 (by conv => lhs; cbv; try simp only [hrw]; cbv; try simp only [hrw]; cbv; try simp only [hrw]; cbv; try simp only [hrw]; cbv) ?_
 refine on_condJ [(1, .isl 1 ts), (2, .ptr 0 0), (4, .ptr 1 0), (5, .ptr 2 0)] [.cells [int o, .isl 14 es, int t, int nv, int s, int n, int co, .isl 8 eca, int cv, int cf, int ck, int xk, int xn, str xt], .cells [int 0, .val (.slice none 0 0), int 0, int 0, int 0, int 0, int 0, .val (.slice none 0 0), int 0, int 0, int 0, int 0, int 0, str ⟨#[]⟩], .cells [int lo, int mo, bool ty, bool cd, bool sc, bool sp]] rfl (fun h => ?_) (fun h => ?_) ?_
 · have hat := hat h
   have hv := hov h
   refine goB hX 0 (by conv => lhs; cbv; try simp only [hat]; cbv; try simp only [hat]; cbv; try simp only [hat]; cbv; try simp only [hat]; cbv) ?_
   refine ⟨rfl, ?_⟩
   exact (ent_sub [.to 0, .to 1, .to 2] [some 0, some 1, some 2] ⟨⟨by simp, rfl⟩, ⟨by simp, rfl⟩, ⟨by simp, rfl⟩, trivial⟩ ⟨osrc_cells (b := 0) rfl rfl rfl ⟨.refl _, .cl hcl, .refl _, .refl _, .refl _, .refl _, .refl _, .cl hcaI, .refl _, .refl _, .refl _, .refl _, .refl _, .refl _, trivial⟩, osrc_cells (b := 1) rfl rfl rfl ⟨.refl _, .refl _, .refl _, .refl _, .refl _, .refl _, .refl _, .refl _, .refl _, .refl _, .refl _, .refl _, .refl _, .refl _, trivial⟩, osrc_cells (b := 2) rfl rfl rfl ⟨.refl _, .refl _, .refl _, .refl _, .refl _, .refl _, trivial⟩, trivial⟩ ⟨.cl hct, .refl _, .refl _, .refl _, trivial⟩)
 · have hnv2 : v = nv := (hnv2 h).symm
   refine goA 60 ?_
   refine ⟨rfl, ?_⟩
   exact (ent_sub [.to 0, .to 1, .to 2] [some 0, some 1, some 2] ⟨⟨by simp, rfl⟩, ⟨by simp, rfl⟩, ⟨by simp, rfl⟩, trivial⟩ ⟨osrc_cells (b := 0) rfl rfl rfl ⟨.refl _, .cl hcl, .refl _, .of (congrArg int (by assumption)), .refl _, .refl _, .refl _, .cl hcaI, .refl _, .refl _, .refl _, .refl _, .refl _, .refl _, trivial⟩, osrc_cells (b := 1) rfl rfl rfl ⟨.refl _, .refl _, .refl _, .refl _, .refl _, .refl _, .refl _, .refl _, .refl _, .refl _, .refl _, .refl _, .refl _, .refl _, trivial⟩, osrc_cells (b := 2) rfl rfl rfl ⟨.refl _, .refl _, .refl _, .refl _, .refl _, .refl _, trivial⟩, trivial⟩ ⟨.cl hct, .refl _, .refl _, .refl _, trivial⟩)
 refine goA 0 ?_
 refine on_condJ [(1, .isl 1 ts), (2, .ptr 0 0), (4, .ptr 1 0)] [.cells [int o, .isl 14 es, int t, int nv, int s, int n, int ncO, .isl 8 encA', int ncV, int ncF, int ncK, int ncXk, int ncXn, str ncXt], .cells [int 0, .val (.slice none 0 0), int 0, int 0, int 0, int 0, int 0, .val (.slice none 0 0), int 0, int 0, int 0, int 0, int 0, str ⟨#[]⟩]] rfl (fun h => ?_) (fun h => ?_) ?_
 · have hnc1 := hnc1 h
   subst hnc1
   rw [Ex.enc_mk, hea] at hrn
   dsimp only at hrn
   refine goA 0 ?_
   refine oPA hrn ?_
   refine goA 60 ?_
   refine ⟨rfl, ?_⟩
   exact (ent_sub [.to 0, .to 1, .gone] [some 0, some 1] ⟨⟨by simp, rfl⟩, ⟨by simp, rfl⟩, trivial, trivial⟩ ⟨osrc_cells (b := 0) rfl rfl rfl ⟨.refl _, .cl hcl, .refl _, .refl _, .refl _, .refl _, .refl _, .cl hncI, .refl _, .refl _, .refl _, .refl _, .refl _, .refl _, trivial⟩, osrc_cells (b := 1) rfl rfl rfl ⟨.refl _, .refl _, .refl _, .refl _, .refl _, .refl _, .refl _, .refl _, .refl _, .refl _, .refl _, .refl _, .refl _, .refl _, trivial⟩, trivial⟩ ⟨.cl hct, .refl _, .refl _, trivial⟩)
 · have hnc2 := hnc2 h
   simp only [Ex.mk.injEq, Vl.mk.injEq] at hnc2
   obtain ⟨rfl, rfl, rfl, rfl, rfl, rfl, rfl, rfl⟩ := hnc2
   have hee : eca = encA' := hec.symm.trans hea
   subst hee
   refine goA 60 ?_
   refine ⟨rfl, ?_⟩
   exact (ent_sub [.to 0, .to 1, .gone] [some 0, some 1] ⟨⟨by simp, rfl⟩, ⟨by simp, rfl⟩, trivial, trivial⟩ ⟨osrc_cells (b := 0) rfl rfl rfl ⟨.refl _, .cl hcl, .refl _, .refl _, .refl _, .refl _, .refl _, .cl hcaI, .refl _, .refl _, .refl _, .refl _, .refl _, .refl _, trivial⟩, osrc_cells (b := 1) rfl rfl rfl ⟨.refl _, .refl _, .refl _, .refl _, .refl _, .refl _, .refl _, .refl _, .refl _, .refl _, .refl _, .refl _, .refl _, .refl _, trivial⟩, trivial⟩ ⟨.cl hct, .refl _, .refl _, trivial⟩)
 have hc0 : AV.closedL (repA (lenA es) (.agg [int 0, .val (.slice none 0 0), int 0, int 0, int 0, int 0, int 0, .val (.slice none 0 0), int 0, int 0, int 0, int 0, int 0, str ⟨#[]⟩])) = true := by simp only [ee]; exact AV.closedL_of fun c hc => by rw [List.eq_of_mem_replicate hc]; rfl
 refine goA 60 ?_
 refine on_loopP (ι := List Pat × List Pat × Int × List AV) (fun p => ([(38, int p.2.2.1), (37, int (lenA es)), (36, .isl 14 es), (1, .isl 1 ts), (2, .ptr 0 0), (4, .ptr 1 0), (6, .sl 2 14 0 (natOf (lenA es)))], [.cells [int o, .isl 14 es, int t, int nv, int s, int n, int ncO, .isl 8 encA', int ncV, int ncF, int ncK, int ncXk, int ncXn, str ncXt], .cells [int 0, .val (.slice none 0 0), int 0, int 0, int 0, int 0, int 0, .val (.slice none 0 0), int 0, int 0, int 0, int 0, int 0, str ⟨#[]⟩], .arr 14 p.2.2.2])) (fun p => a = p.1 ++ p.2.1 ∧ p.2.2.1 = p.1.length ∧ p.2.2.2 = mapE Pat.enc (Pat.renL to p.1) ++ List.replicate p.2.1.length (.agg [int 0, .val (.slice none 0 0), int 0, int 0, int 0, int 0, int 0, .val (.slice none 0 0), int 0, int 0, int 0, int 0, int 0, str ⟨#[]⟩])) (fun p => p.2.1.length) ([], a, 0, repA (lenA es) (.agg [int 0, .val (.slice none 0 0), int 0, int 0, int 0, int 0, int 0, .val (.slice none 0 0), int 0, int 0, int 0, int 0, int 0, str ⟨#[]⟩])) ⟨rfl, rfl, by simp only [ee]; rw [Pat.renL, hnil, hel]; simp⟩ ?_ ?_
 · exact (ent_sub [.to 0, .to 1, .to 2] [some 0, some 1, some 2] ⟨⟨by simp, rfl⟩, ⟨by simp, rfl⟩, ⟨by simp, rfl⟩, trivial⟩ ⟨osrc_cells (b := 0) rfl rfl rfl ⟨.refl _, .cl hcl, .refl _, .refl _, .refl _, .refl _, .refl _, .cl hncI, .refl _, .refl _, .refl _, .refl _, .refl _, .refl _, trivial⟩, osrc_cells (b := 1) rfl rfl rfl ⟨.refl _, .refl _, .refl _, .refl _, .refl _, .refl _, .refl _, .refl _, .refl _, .refl _, .refl _, .refl _, .refl _, .refl _, trivial⟩, osrc_arr (b := 2) rfl rfl rfl rfl hc0, trivial⟩ ⟨.refl _, .refl _, .cl hcl, .cl hct, .refl _, .refl _, .refl _, trivial⟩)
 rintro ⟨d, r, i, w⟩ ⟨g1, gi, gw⟩
 dsimp only at g1 gi gw ⊢
 have hzc : (AV.agg [int 0, .val (.slice none 0 0), int 0, int 0, int 0, int 0, int 0, .val (.slice none 0 0), int 0, int 0, int 0, int 0, int 0, str ⟨#[]⟩]).closed = true := rfl
 have hcw : AV.closedL w = true := by
  rw [gw]; refine closedL_append (Pat.closedL _) (AV.closedL_of fun c hc => ?_)
  rw [List.eq_of_mem_replicate hc]; rfl
 have hwl : w.length = a.length := by rw [gw, g1]; simp [mapE_len, Pat.renL_len]
 have hnl : natOf (lenA es) = w.length := by simp only [ee]; omega
 cases r with
 | nil =>
  have L1 := len_split g1
  try simp only [List.length] at L1
  have hc : iLt i (lenA es) = false := lt_f e_iLt e_lenA (by omega)
  rw [List.append_nil] at g1
  have hF2 : F = w := by rw [hFin, gw, g1]; simp
  rw [hF2]
  refine goB hX 0 (by conv => lhs; cbv; try simp only [hc]; cbv; try simp only [hc]; cbv; try simp only [hc]; cbv; try simp only [hc]; cbv) ?_
  refine goA 60 ?_
  refine loopP_exit ?_
  refine goA 60 ?_
  refine fn_ret rfl rfl ?_
  exact ⟨[.gone, .gone, .isl 14 (w)], ⟨trivial, trivial, ⟨_, rfl, (subL_closed _ hcw).symm⟩, trivial⟩, .agg' ⟨.refl _, .of (sub_whole rfl (by assumption)), .refl _, .refl _, .refl _, .refl _, .refl _, .cl hncI, .refl _, .refl _, .refl _, .refl _, .refl _, .refl _, trivial⟩⟩
 | cons q r =>
  have L1 := len_split g1
  try simp only [List.length] at L1
  have hc : iLt i (lenA es) = true := lt_t e_iLt e_lenA (by omega)
  have hat2 := el_at e_atA hes g1 gi
  have hq := hih q (by rw [g1]; simp)
  have hqc := Pat.closed q
  have hqr := Pat.closed (q.ren to)
  have hi2 : iAdd .i64 i 1 = ((d ++ [q]).length : Int) := by rw [List.length_append]; exact inc_w e_iAdd gi (by omega)
  have hix : idxN 0 i = d.length := by simp only [ee]; omega
  have hw2 : w.set d.length (q.ren to).enc = mapE Pat.enc (Pat.renL to (d ++ [q])) ++ List.replicate r.length (.agg [int 0, .val (.slice none 0 0), int 0, int 0, int 0, int 0, int 0, .val (.slice none 0 0), int 0, int 0, int 0, int 0, int 0, str ⟨#[]⟩]) := by
   rw [fill_next (d := mapE Pat.enc (Pat.renL to d)) (r := List.replicate r.length (.agg [int 0, .val (.slice none 0 0), int 0, int 0, int 0, int 0, int 0, .val (.slice none 0 0), int 0, int 0, int 0, int 0, int 0, str ⟨#[]⟩])) (x := .agg [int 0, .val (.slice none 0 0), int 0, int 0, int 0, int 0, int 0, .val (.slice none 0 0), int 0, int 0, int 0, int 0, int 0, str ⟨#[]⟩]) (z := .agg [int 0, .val (.slice none 0 0), int 0, int 0, int 0, int 0, int 0, .val (.slice none 0 0), int 0, int 0, int 0, int 0, int 0, str ⟨#[]⟩]) (by rw [gw]; simp) (by rw [mapE_len, Pat.renL_len])]
   rw [Pat.renL_append, mapE_eq, mapE_eq]; simp [Pat.renL]
  generalize q.ren to = qr at *
  obtain ⟨qO, qA, qT, qV, qS, qN, qCo, qCa, qCv, qCf, qCk, qXk, qXn, qXt, hxq⟩ := Pat.form q
  obtain ⟨qrO, qrA, qrT, qrV, qrS, qrN, qrCo, qrCa, qrCv, qrCf, qrCk, qrXk, qrXn, qrXt, hxr⟩ := Pat.form qr
  rw [hxq] at hat2 hqc hq
  rw [hxr] at hq hqr hw2
  have hw3 : setA w (idxN 0 i) (.agg [int qrO, .isl 14 qrA, int qrT, int qrV, int qrS, int qrN, int qrCo, .isl 8 qrCa, int qrCv, int qrCf, int qrCk, int qrXk, int qrXn, str qrXt]) = mapE Pat.enc (Pat.renL to (d ++ [q])) ++ List.replicate r.length (.agg [int 0, .val (.slice none 0 0), int 0, int 0, int 0, int 0, int 0, .val (.slice none 0 0), int 0, int 0, int 0, int 0, int 0, str ⟨#[]⟩]) := by rw [hix]; simp only [ee]; exact hw2
  have hc3 : AV.closedL (setA w (idxN 0 i) (.agg [int qrO, .isl 14 qrA, int qrT, int qrV, int qrS, int qrN, int qrCo, .isl 8 qrCa, int qrCv, int qrCf, int qrCk, int qrXk, int qrXn, str qrXt])) = true := by
   rw [hw3]; refine closedL_append (Pat.closedL _) (AV.closedL_of fun c hc => ?_)
   rw [List.eq_of_mem_replicate hc]; rfl
  refine goB hX 0 (by conv => lhs; cbv; try simp only [hc, hat2]; cbv; try simp only [hc, hat2]; cbv; try simp only [hc, hat2]; cbv; try simp only [hc, hat2]; cbv) ?_
  refine goB hX 1 (by conv => lhs; cbv; try simp only [hc, hat2]; cbv; try simp only [hc, hat2]; cbv; try simp only [hc, hat2]; cbv; try simp only [hc, hat2]; cbv) ?_
  refine oPA hq ?_
  refine goA 60 ?_
  refine loopP_next (d ++ [q], r, iAdd .i64 i 1, setA w (idxN 0 i) (.agg [int qrO, .isl 14 qrA, int qrT, int qrV, int qrS, int qrN, int qrCo, .isl 8 qrCa, int qrCv, int qrCf, int qrCk, int qrXk, int qrXn, str qrXt])) ⟨by simp [g1], hi2, hw3⟩ (by simp) (ent_sub [.to 0, .to 1, .to 2, .gone] [some 0, some 1, some 2] ⟨⟨by simp, rfl⟩, ⟨by simp, rfl⟩, ⟨by simp, rfl⟩, trivial, trivial⟩ ⟨osrc_cells (b := 0) rfl rfl rfl ⟨.refl _, .cl hcl, .refl _, .refl _, .refl _, .refl _, .refl _, .cl hncI, .refl _, .refl _, .refl _, .refl _, .refl _, .refl _, trivial⟩, osrc_cells (b := 1) rfl rfl rfl ⟨.refl _, .refl _, .refl _, .refl _, .refl _, .refl _, .refl _, .refl _, .refl _, .refl _, .refl _, .refl _, .refl _, .refl _, trivial⟩, osrc_arr (b := 2) rfl rfl rfl rfl hc3, trivial⟩ ⟨.refl _, .refl _, .cl hcl, .cl hct, .refl _, .refl _, .refl _, trivial⟩)
mutual
def Pat.nsc : Pat → Nat
 | .mk o a _ _ _ _ _ => (if scopeF o then 1 else 0) + Pat.nscL a
def Pat.nscL : List Pat → Nat
 | [] => 0
 | e :: r => e.nsc + Pat.nscL r
end
mutual
def Pat.numb : Int → Pat → Pat
 | k, .mk o a t v s n c => .mk o (Pat.numbL (if scopeF o then k + 1 else k) a) t v (if scopeF o then k else s) n c
def Pat.numbL : Int → List Pat → List Pat
 | _, [] => []
 | k, e :: r => e.numb k :: Pat.numbL (k + e.nsc) r
end
theorem Pat.nscL_append (a b : List Pat) : Pat.nscL (a ++ b) = Pat.nscL a + Pat.nscL b := by
 induction a with
 | nil => simp [Pat.nscL]
 | cons x r ih => simp [Pat.nscL, ih]; omega
theorem Pat.numbL_append (a b : List Pat) : ∀ k, Pat.numbL k (a ++ b) = Pat.numbL k a ++ Pat.numbL (k + Pat.nscL a) b := by
 induction a with
 | nil => intro k; simp [Pat.numbL, Pat.nscL]
 | cons x r ih => intro k; simp [Pat.numbL, Pat.nscL, ih]; congr 1; omega
theorem Pat.numbL_len (a : List Pat) : ∀ k, (Pat.numbL k a).length = a.length := by
 induction a with
 | nil => intro k; simp [Pat.numbL]
 | cons x r ih => intro k; simp [Pat.numbL, ih]
theorem Pat.nscL_le {l : List Pat} (h : ∀ e ∈ l, e.nsc ≤ e.cnt) : Pat.nscL l ≤ Pat.cntL l := by
 induction l with
 | nil => simp [Pat.nscL]
 | cons e r ih =>
  have h1 := h e (by simp)
  have h2 := ih (fun e he => h e (by simp [he]))
  simp only [Pat.nscL, Pat.cntL]; omega
theorem Pat.nsc_le : ∀ p : Pat, p.nsc ≤ p.cnt := Pat.ind fun o a t v s n c h => by
 have := Pat.nscL_le h
 simp only [Pat.nsc, Pat.cnt]; split <;> omega
theorem P_numbered : ∀ p : Pat, p.Sm → (∀ q ∈ p.nodes, 0 ≤ q.op ∧ q.op < 11) → ∀ k : Int, 0 ≤ k → k + p.nsc < 1073741824 → PCall EE 43 [p.enc, int k] (.tup [(p.numb k).enc, int (k + p.nsc)]) := by
 refine Pat.ind ?_
 intro o a t v s n c ih hs hF k hk0 hk1
 have hlen := hs.len
 have hih : ∀ q ∈ a, ∀ j : Int, 0 ≤ j → j + q.nsc < 1073741824 → PCall EE 43 [q.enc, int j] (.tup [(q.numb j).enc, int (j + q.nsc)]) := fun q hq => ih q hq (hs.arg hq) fun q2 hq2 => hF q2 (by
  rw [Pat.nodes]
  obtain ⟨d, r, rfl⟩ := List.append_of_mem hq
  simp [Pat.nodesL_append, Pat.nodesL, hq2])
 obtain ⟨ho0, ho1⟩ := hF (.mk o a t v s n c) (by rw [Pat.nodes]; simp)
 simp only [Pat.op] at ho0 ho1
 have hrow := shape_row ho0 ho1
 have hcl := Pat.closedI a
 rw [Pat.numb, Pat.nsc] at *
 obtain ⟨k1, hk1d⟩ : ∃ z : Int, z = (if scopeF o then k + 1 else k) := ⟨_, rfl⟩
 obtain ⟨ns, hns⟩ : ∃ z : Int, z = (if scopeF o then k else s) := ⟨_, rfl⟩
 rw [← hk1d, ← hns]
 have hk1t : scopeF o = true → k1 = k + 1 := fun h => by rw [hk1d, if_pos h]
 have hk1f : scopeF o = false → k1 = k := fun h => by rw [hk1d, if_neg (by simp [h])]
 have hnst : scopeF o = true → ns = k := fun h => by rw [hns, if_pos h]
 have hnsf : scopeF o = false → s = ns := fun h => by rw [hns, if_neg (by simp [h])]
 obtain ⟨K2, hK2⟩ : ∃ z : Int, z = k + ((if scopeF o then 1 else 0) + Pat.nscL a : Nat) := ⟨_, rfl⟩
 rw [← hK2] at hk1 ⊢
 have hK3 : K2 = k1 + Pat.nscL a := by
  rw [hK2]; cases hsc : scopeF o with
  | true => rw [hk1t hsc]; simp; omega
  | false => rw [hk1f hsc]; simp
 clear hk1d hns hK2 ih hF
 have hk10 : 0 ≤ k1 := by cases hsc : scopeF o with
  | true => rw [hk1t hsc]; omega
  | false => rw [hk1f hsc]; omega
 obtain ⟨co, ca, cv, cf, ck, xk, xn, xt⟩ := c
 rw [Pat.enc_mk, Pat.enc_mk]
 have hnil : mapE Pat.enc [] = [] := by rw [mapE_eq]; rfl
 obtain ⟨F, hFin⟩ : ∃ F, F = mapE Pat.enc (Pat.numbL k1 a) := ⟨_, rfl⟩
 rw [← hFin]
 have hcaI : (AV.isl 8 (mapE Ex.enc ca)).closed = true := Ex.closedI ca
 dsimp only
 refine wordsN ?_; unhygienic intros
 generalize hes : mapE Pat.enc a = es at *
 generalize hec : mapE Ex.enc ca = eca at *
 have hel : es.length = a.length := by rw [← hes, mapE_len]
 have hrw : rowA (Classical.choice tabBox_ne).g o 6 = [int (leastF o), int (mostF o), bool (typedF o), bool (condF o), bool (scopeF o), bool (spanF o)] := by rw [e_rowA]; exact hrow
 generalize leastF o = lo at *
 generalize mostF o = mo at *
 generalize typedF o = ty at *
 generalize condF o = cd at *
 generalize scopeF o = sc at *
 generalize spanF o = sp at *
 clear hrow
 refine fn_body (fn := Tryz.f43) (n := 44) (ac := Tryzc43) (rvs := [.cell 4 14 true, .t 5]) rfl (by decide) Tryzp43 rfl rfl rfl ?_
 refine goB hX 0 (by conv => lhs; cbv; try simp only [hrw]; cbv; try simp only [hrw]; cbv; try simp only [hrw]; cbv; try simp only [hrw]; cbv) ?_
 refine on_condJ [(1, int k1), (2, .ptr 0 0), (4, .ptr 1 0)] [.cells [int o, .isl 14 es, int t, int v, int ns, int n, int co, .isl 8 eca, int cv, int cf, int ck, int xk, int xn, str xt], .cells [int 0, .val (.slice none 0 0), int 0, int 0, int 0, int 0, int 0, .val (.slice none 0 0), int 0, int 0, int 0, int 0, int 0, str ⟨#[]⟩]] rfl (fun h => ?_) (fun h => ?_) ?_
 · have e1 := hnst h
   have e3 := hk1t h
   subst e1
   have e2 : iAdd .i64 ns 1 = k1 := by rw [hk1t h, add_w e_iAdd (by omega) (by omega)]
   refine goA 60 ?_
   refine ⟨rfl, ?_⟩
   exact (ent_sub [.to 0, .to 1] [some 0, some 1] ⟨⟨by simp, rfl⟩, ⟨by simp, rfl⟩, trivial⟩ ⟨osrc_cells (b := 0) rfl rfl rfl ⟨.refl _, .cl hcl, .refl _, .refl _, .refl _, .refl _, .refl _, .cl hcaI, .refl _, .refl _, .refl _, .refl _, .refl _, .refl _, trivial⟩, osrc_cells (b := 1) rfl rfl rfl ⟨.refl _, .refl _, .refl _, .refl _, .refl _, .refl _, .refl _, .refl _, .refl _, .refl _, .refl _, .refl _, .refl _, .refl _, trivial⟩, trivial⟩ ⟨.of (congrArg int (by assumption)), .refl _, .refl _, trivial⟩)
 · have e1 := hnsf h
   have e2 := (hk1f h).symm
   refine goA 60 ?_
   refine ⟨rfl, ?_⟩
   exact (ent_sub [.to 0, .to 1] [some 0, some 1] ⟨⟨by simp, rfl⟩, ⟨by simp, rfl⟩, trivial⟩ ⟨osrc_cells (b := 0) rfl rfl rfl ⟨.refl _, .cl hcl, .refl _, .refl _, .of (congrArg int (by assumption)), .refl _, .refl _, .cl hcaI, .refl _, .refl _, .refl _, .refl _, .refl _, .refl _, trivial⟩, osrc_cells (b := 1) rfl rfl rfl ⟨.refl _, .refl _, .refl _, .refl _, .refl _, .refl _, .refl _, .refl _, .refl _, .refl _, .refl _, .refl _, .refl _, .refl _, trivial⟩, trivial⟩ ⟨.of (congrArg int (by assumption)), .refl _, .refl _, trivial⟩)
 have hc0 : AV.closedL (repA (lenA es) (.agg [int 0, .val (.slice none 0 0), int 0, int 0, int 0, int 0, int 0, .val (.slice none 0 0), int 0, int 0, int 0, int 0, int 0, str ⟨#[]⟩])) = true := by simp only [ee]; exact AV.closedL_of fun c hc => by rw [List.eq_of_mem_replicate hc]; rfl
 refine goA 60 ?_
 refine on_loopP (ι := List Pat × List Pat × Int × Int × List AV) (fun p => ([(25, int p.2.2.1), (24, int (lenA es)), (23, .isl 14 es), (1, int p.2.2.2.1), (2, .ptr 0 0), (4, .ptr 1 0), (6, .sl 2 14 0 (natOf (lenA es)))], [.cells [int o, .isl 14 es, int t, int v, int ns, int n, int co, .isl 8 eca, int cv, int cf, int ck, int xk, int xn, str xt], .cells [int 0, .val (.slice none 0 0), int 0, int 0, int 0, int 0, int 0, .val (.slice none 0 0), int 0, int 0, int 0, int 0, int 0, str ⟨#[]⟩], .arr 14 p.2.2.2.2])) (fun p => a = p.1 ++ p.2.1 ∧ p.2.2.1 = p.1.length ∧ p.2.2.2.1 = k1 + Pat.nscL p.1 ∧ p.2.2.2.2 = mapE Pat.enc (Pat.numbL k1 p.1) ++ List.replicate p.2.1.length (.agg [int 0, .val (.slice none 0 0), int 0, int 0, int 0, int 0, int 0, .val (.slice none 0 0), int 0, int 0, int 0, int 0, int 0, str ⟨#[]⟩])) (fun p => p.2.1.length) ([], a, 0, k1, repA (lenA es) (.agg [int 0, .val (.slice none 0 0), int 0, int 0, int 0, int 0, int 0, .val (.slice none 0 0), int 0, int 0, int 0, int 0, int 0, str ⟨#[]⟩])) ⟨rfl, rfl, by simp [Pat.nscL], by simp only [ee]; rw [Pat.numbL, hnil, hel]; simp⟩ ?_ ?_
 · exact (ent_sub [.to 0, .to 1, .to 2] [some 0, some 1, some 2] ⟨⟨by simp, rfl⟩, ⟨by simp, rfl⟩, ⟨by simp, rfl⟩, trivial⟩ ⟨osrc_cells (b := 0) rfl rfl rfl ⟨.refl _, .cl hcl, .refl _, .refl _, .refl _, .refl _, .refl _, .cl hcaI, .refl _, .refl _, .refl _, .refl _, .refl _, .refl _, trivial⟩, osrc_cells (b := 1) rfl rfl rfl ⟨.refl _, .refl _, .refl _, .refl _, .refl _, .refl _, .refl _, .refl _, .refl _, .refl _, .refl _, .refl _, .refl _, .refl _, trivial⟩, osrc_arr (b := 2) rfl rfl rfl rfl hc0, trivial⟩ ⟨.refl _, .refl _, .cl hcl, .refl _, .refl _, .refl _, .refl _, trivial⟩)
 rintro ⟨d, r, i, kk, w⟩ ⟨g1, gi, gk, gw⟩
 dsimp only at g1 gi gk gw ⊢
 have hcw : AV.closedL w = true := by
  rw [gw]; refine closedL_append (Pat.closedL _) (AV.closedL_of fun c hc => ?_)
  rw [List.eq_of_mem_replicate hc]; rfl
 have hwl : w.length = a.length := by rw [gw, g1]; simp [mapE_len, Pat.numbL_len]
 have hnl : natOf (lenA es) = w.length := by simp only [ee]; omega
 cases r with
 | nil =>
  have L1 := len_split g1
  try simp only [List.length] at L1
  have hc : iLt i (lenA es) = false := lt_f e_iLt e_lenA (by omega)
  rw [List.append_nil] at g1
  have hF2 : F = w := by rw [hFin, gw, g1]; simp
  have hkf : kk = K2 := by rw [hK3, gk, g1]
  rw [hF2, ← hkf]
  refine goB hX 0 (by conv => lhs; cbv; try simp only [hc]; cbv; try simp only [hc]; cbv; try simp only [hc]; cbv; try simp only [hc]; cbv) ?_
  refine goA 60 ?_
  refine loopP_exit ?_
  refine goA 60 ?_
  refine fn_ret rfl rfl ?_
  exact ⟨[.gone, .gone, .isl 14 (w)], ⟨trivial, trivial, ⟨_, rfl, (subL_closed _ hcw).symm⟩, trivial⟩, .tup' ⟨.agg' ⟨.refl _, .of (sub_whole rfl (by assumption)), .refl _, .refl _, .refl _, .refl _, .refl _, .cl hcaI, .refl _, .refl _, .refl _, .refl _, .refl _, .refl _, trivial⟩, .refl _, trivial⟩⟩
 | cons q r =>
  have L1 := len_split g1
  try simp only [List.length] at L1
  have hc : iLt i (lenA es) = true := lt_t e_iLt e_lenA (by omega)
  have hat2 := el_at e_atA hes g1 gi
  have hnq : Pat.nscL a = Pat.nscL d + (q.nsc + Pat.nscL r) := by rw [g1, Pat.nscL_append, Pat.nscL]
  have hq := hih q (by rw [g1]; simp) kk (by omega) (by omega)
  have hqc := Pat.closed q
  have hqr := Pat.closed (q.numb kk)
  have hi2 : iAdd .i64 i 1 = ((d ++ [q]).length : Int) := by rw [List.length_append]; exact inc_w e_iAdd gi (by omega)
  have hix : idxN 0 i = d.length := by simp only [ee]; omega
  have hk2 : kk + q.nsc = k1 + Pat.nscL (d ++ [q]) := by rw [Pat.nscL_append, Pat.nscL, Pat.nscL]; omega
  have hw2 : w.set d.length (q.numb kk).enc = mapE Pat.enc (Pat.numbL k1 (d ++ [q])) ++ List.replicate r.length (.agg [int 0, .val (.slice none 0 0), int 0, int 0, int 0, int 0, int 0, .val (.slice none 0 0), int 0, int 0, int 0, int 0, int 0, str ⟨#[]⟩]) := by
   rw [fill_next (d := mapE Pat.enc (Pat.numbL k1 d)) (r := List.replicate r.length (.agg [int 0, .val (.slice none 0 0), int 0, int 0, int 0, int 0, int 0, .val (.slice none 0 0), int 0, int 0, int 0, int 0, int 0, str ⟨#[]⟩])) (x := .agg [int 0, .val (.slice none 0 0), int 0, int 0, int 0, int 0, int 0, .val (.slice none 0 0), int 0, int 0, int 0, int 0, int 0, str ⟨#[]⟩]) (z := .agg [int 0, .val (.slice none 0 0), int 0, int 0, int 0, int 0, int 0, .val (.slice none 0 0), int 0, int 0, int 0, int 0, int 0, str ⟨#[]⟩]) (by rw [gw]; simp) (by rw [mapE_len, Pat.numbL_len])]
   rw [Pat.numbL_append, mapE_eq, mapE_eq, gk]; simp [Pat.numbL]
  generalize q.numb kk = qr at *
  generalize kk + (q.nsc : Int) = kn at *
  obtain ⟨qO, qA, qT, qV, qS, qN, qCo, qCa, qCv, qCf, qCk, qXk, qXn, qXt, hxq⟩ := Pat.form q
  obtain ⟨qrO, qrA, qrT, qrV, qrS, qrN, qrCo, qrCa, qrCv, qrCf, qrCk, qrXk, qrXn, qrXt, hxr⟩ := Pat.form qr
  rw [hxq] at hat2 hqc hq
  rw [hxr] at hq hqr hw2
  have hw3 : setA w (idxN 0 i) (.agg [int qrO, .isl 14 qrA, int qrT, int qrV, int qrS, int qrN, int qrCo, .isl 8 qrCa, int qrCv, int qrCf, int qrCk, int qrXk, int qrXn, str qrXt]) = mapE Pat.enc (Pat.numbL k1 (d ++ [q])) ++ List.replicate r.length (.agg [int 0, .val (.slice none 0 0), int 0, int 0, int 0, int 0, int 0, .val (.slice none 0 0), int 0, int 0, int 0, int 0, int 0, str ⟨#[]⟩]) := by rw [hix]; simp only [ee]; exact hw2
  have hc3 : AV.closedL (setA w (idxN 0 i) (.agg [int qrO, .isl 14 qrA, int qrT, int qrV, int qrS, int qrN, int qrCo, .isl 8 qrCa, int qrCv, int qrCf, int qrCk, int qrXk, int qrXn, str qrXt])) = true := by
   rw [hw3]; refine closedL_append (Pat.closedL _) (AV.closedL_of fun c hc => ?_)
   rw [List.eq_of_mem_replicate hc]; rfl
  refine goB hX 0 (by conv => lhs; cbv; try simp only [hc, hat2]; cbv; try simp only [hc, hat2]; cbv; try simp only [hc, hat2]; cbv; try simp only [hc, hat2]; cbv) ?_
  refine goB hX 1 (by conv => lhs; cbv; try simp only [hc, hat2]; cbv; try simp only [hc, hat2]; cbv; try simp only [hc, hat2]; cbv; try simp only [hc, hat2]; cbv) ?_
  refine oPA hq ?_
  refine goA 60 ?_
  refine loopP_next (d ++ [q], r, iAdd .i64 i 1, kn, setA w (idxN 0 i) (.agg [int qrO, .isl 14 qrA, int qrT, int qrV, int qrS, int qrN, int qrCo, .isl 8 qrCa, int qrCv, int qrCf, int qrCk, int qrXk, int qrXn, str qrXt])) ⟨by simp [g1], hi2, hk2, hw3⟩ (by simp) (ent_sub [.to 0, .to 1, .to 2, .gone] [some 0, some 1, some 2] ⟨⟨by simp, rfl⟩, ⟨by simp, rfl⟩, ⟨by simp, rfl⟩, trivial, trivial⟩ ⟨osrc_cells (b := 0) rfl rfl rfl ⟨.refl _, .cl hcl, .refl _, .refl _, .refl _, .refl _, .refl _, .cl hcaI, .refl _, .refl _, .refl _, .refl _, .refl _, .refl _, trivial⟩, osrc_cells (b := 1) rfl rfl rfl ⟨.refl _, .refl _, .refl _, .refl _, .refl _, .refl _, .refl _, .refl _, .refl _, .refl _, .refl _, .refl _, .refl _, .refl _, trivial⟩, osrc_arr (b := 2) rfl rfl rfl rfl hc3, trivial⟩ ⟨.refl _, .refl _, .cl hcl, .refl _, .refl _, .refl _, .refl _, trivial⟩)
noncomputable def Pat.chkR (p : Pat) : Int := if 64 < p.cnt then 5 else if 12 < p.dep then 12 else firstE Pat.nodeE p.nodes
theorem firstE_ok {α : Type} {F : α → Int} : ∀ {l : List α}, (∀ q ∈ l, F q = 0) → firstE F l = 0
 | [], _ => rfl
 | q :: r, h => by rw [firstE, if_neg (by simp [h q]), firstE_ok fun q hq => h q (by simp [hq])]
theorem firstE_at {α : Type} {F : α → Int} {d : List α} {q : α} {r : List α} (h : ∀ q ∈ d, F q = 0) (hq : F q ≠ 0) : firstE F (d ++ q :: r) = F q := by
 rw [firstE_append, if_neg (by simp [firstE_ok h]), firstE, if_pos hq]
theorem P_CheckRest (p : Pat) (hs : p.Sm) : PCall EE 19 [p.enc] (int p.chkR) := by
 have h1 := P_pattern_Size p hs
 have hsn := hs.node
 have hcl := Pat.closed p
 obtain ⟨R, hR⟩ : ∃ R, R = p.chkR := ⟨_, rfl⟩
 rw [← hR]
 unfold Pat.chkR at hR
 obtain ⟨pcs, hpe⟩ : ∃ cs, p.enc = .agg cs := by obtain ⟨o, es, t, v, s, n, co, ec, cv, cf, ck, xk, xn, xt, h⟩ := Pat.form p; exact ⟨_, h⟩
 have hpre := P_preorder p hpe
 obtain ⟨pO, pA, pT, pV, pS, pN, pCo, pCa, pCv, pCf, pCk, pXk, pXn, pXt, hx⟩ := Pat.form p
 rw [hx] at h1 hcl hpe ⊢
 injection hpe with hpe
 subst hpe
 have hip : (AV.fn 67 [.iptr [int pO, .isl 14 pA, int pT, int pV, int pS, int pN, int pCo, .isl 8 pCa, int pCv, int pCf, int pCk, int pXk, int pXn, str pXt]]).closed = true := by simp only [closed_fn, AV.closedL, closed_iptr, Bool.and_true]; exact hcl
 generalize hn : (p.cnt : Int) = cn at *
 generalize hd : (p.dep : Int) = dn at *
 refine wordsN ?_; unhygienic intros
 refine fn_body (fn := Tryz.f19) (n := 24) (ac := Tryzc19) (rvs := [.cell 2 1 false]) rfl (by decide) Tryzp19 rfl rfl rfl ?_
 by_cases g1 : 64 < p.cnt
 · have k1 : iLt 64 cn = true := by simp only [ee]; simp; omega
   have hR : R = 5 := by rw [hR, if_pos g1]
   refine goA 60 ?_
   refine oPA h1 ?_
   refine goB hX 0 (by conv => lhs; cbv; try simp only [k1]; cbv; try simp only [k1]; cbv; try simp only [k1]; cbv; try simp only [k1]; cbv) ?_
   refine goA 60 ?_
   refine fn_ret rfl rfl (.val ?_)
   exact congrArg (Value.int .i64) hR.symm
 have k1 : iLt 64 cn = false := by simp only [ee]; simp; omega
 by_cases g2 : 12 < p.dep
 · have k2 : iLt 12 dn = true := by simp only [ee]; simp; omega
   have hR : R = 12 := by rw [hR, if_neg g1, if_pos g2]
   refine goA 60 ?_
   refine oPA h1 ?_
   refine goB hX 0 (by conv => lhs; cbv; try simp only [k1, k2]; cbv; try simp only [k1, k2]; cbv; try simp only [k1, k2]; cbv; try simp only [k1, k2]; cbv) ?_
   refine goB hX 1 (by conv => lhs; cbv; try simp only [k1, k2]; cbv; try simp only [k1, k2]; cbv; try simp only [k1, k2]; cbv; try simp only [k1, k2]; cbv) ?_
   refine goA 60 ?_
   refine fn_ret rfl rfl (.val ?_)
   exact congrArg (Value.int .i64) hR.symm
 have k2 : iLt 12 dn = false := by simp only [ee]; simp; omega
 have hR : R = firstE Pat.nodeE p.nodes := by rw [hR, if_neg g1, if_neg g2]
 refine goA 60 ?_
 refine oPA h1 ?_
 refine goB hX 0 (by conv => lhs; cbv; try simp only [k1, k2]; cbv; try simp only [k1, k2]; cbv; try simp only [k1, k2]; cbv; try simp only [k1, k2]; cbv) ?_
 refine goB hX 1 (by conv => lhs; cbv; try simp only [k1, k2]; cbv; try simp only [k1, k2]; cbv; try simp only [k1, k2]; cbv; try simp only [k1, k2]; cbv) ?_
 refine goA 60 ?_
 refine oPA hpre ?_
 refine goA 60 ?_
 refine on_ent (F' := [(17, .fn 67 [.iptr [int pO, .isl 14 pA, int pT, int pV, int pS, int pN, int pCo, .isl 8 pCa, int pCv, int pCf, int pCk, int pXk, int pXn, str pXt]]), (2, .ptr 0 0)]) (H' := [.cells [int 0], .dead, .dead, .dead, .dead, .dead, .dead]) ?_ ?_
 · exact (ent_sub [.gone, .to 0] [some 1, none, none, none, none, none, none] ⟨trivial, ⟨by simp, rfl⟩, trivial⟩ ⟨osrc_cells (b := 1) rfl rfl rfl ⟨.refl _, trivial⟩, .dead, .dead, .dead, .dead, .dead, .dead, trivial⟩ ⟨.cl hip, .refl _, trivial⟩)
 refine on_preorder (fun _ => .cells [int 0]) (fun _ => .dead) (fun _ => .dead) (fun _ => .dead) (fun _ => .dead) (fun _ => .dead) (fun _ => .dead) (fun _ => .dead) (fun _ => .dead) (fun d => ∀ q ∈ d, q.nodeE = 0) p hs hx rfl rfl ⟨.cl hip, .ptr (by decide), trivial⟩ (fun q hq => by cases hq) ?_ (fun _ => .cells ⟨.cl rfl, trivial⟩) (fun _ => .dead) (fun _ => .dead) (fun _ => .dead) (fun _ => .dead) (fun _ => .dead) (fun _ => .dead) (fun _ => .dead) (fun _ => .dead) (fun hall => ?_) (fun d q r hd hok => ?_)
 · exact (hent_sub [.to 0, .gone, .gone, .gone, .gone, .gone, .gone, .to 7] [some 0, some 1, some 2, some 3, some 4, some 5, some 6, some 7, none, none] rfl ⟨rfl, rfl, rfl, rfl, rfl, rfl, rfl, rfl, trivial⟩ (by simp) (by simp) ⟨⟨by simp, rfl⟩, trivial, trivial, trivial, trivial, trivial, trivial, ⟨by simp, rfl⟩, trivial⟩ ⟨osrc_cells (b := 0) rfl rfl rfl ⟨.refl _, trivial⟩, .dead, .dead, .dead, .dead, .dead, .dead, .some 7 _ _ rfl rfl rfl (.loop _ _ _ _ _ _ _ _ ⟨.cl hip, .refl _, trivial⟩), .dead, .dead, trivial⟩)
 · have hR : R = 0 := by rw [hR]; exact firstE_ok hall
   refine goA 60 ?_
   refine fn_ret rfl rfl (.val ?_)
   exact congrArg (Value.int .i64) hR.symm
 · have hq := P_check q (hsn q (by rw [hd]; simp))
   have hqc := Pat.closed q
   have hfe := fun h => firstE_at (F := Pat.nodeE) (r := r) hok (q := q) h
   rw [← hd] at hfe
   have hok2 : q.nodeE = 0 → ∀ q' ∈ d ++ [q], q'.nodeE = 0 := fun h q' hq' => by
    rcases List.mem_append.1 hq' with h' | h'
    · exact hok q' h'
    · simp at h'; rw [h']; exact h
   obtain ⟨qO, qA, qT, qV, qS, qN, qCo, qCa, qCv, qCf, qCk, qXk, qXn, qXt, hx2⟩ := Pat.form q
   rw [hx2] at hq hqc ⊢
   generalize q.nodeE = qe at *
   by_cases hqe : qe = 0
   · have k3 : iNe qe 0 = false := by simp only [ee]; simpa using hqe
     refine goA 60 ?_
     refine rnd_assign rfl ?_
     refine goA 60 ?_
     refine oPA hq ?_
     refine goB hX 0 (by conv => lhs; cbv; try simp only [k3]; cbv; try simp only [k3]; cbv; try simp only [k3]; cbv; try simp only [k3]; cbv) ?_
     refine goA 60 ?_
     exact rnd_next rfl (hok2 hqe) (hent_sub [.to 0, .gone, .gone, .gone, .gone, .gone, .gone, .to 7, .gone, .gone, .gone] [some 0, some 1, some 2, some 3, some 4, some 5, some 6, some 7, none, none] rfl ⟨rfl, rfl, rfl, rfl, rfl, rfl, rfl, rfl, trivial⟩ (by simp) (by simp) ⟨⟨by simp, rfl⟩, trivial, trivial, trivial, trivial, trivial, trivial, ⟨by simp, rfl⟩, trivial, trivial, trivial, trivial⟩ ⟨osrc_cells (b := 0) rfl rfl rfl ⟨.refl _, trivial⟩, .dead, .dead, .dead, .dead, .dead, .dead, .some 7 _ _ rfl rfl rfl (.loop _ _ _ _ _ _ _ _ ⟨.cl hip, .refl _, trivial⟩), .dead, .dead, trivial⟩)
   · have k3 : iNe qe 0 = true := by simp only [ee]; simpa using hqe
     have hR : R = qe := by rw [hR]; exact hfe hqe
     refine goA 60 ?_
     refine rnd_assign rfl ?_
     refine goA 60 ?_
     refine oPA hq ?_
     refine goB hX 0 (by conv => lhs; cbv; try simp only [k3]; cbv; try simp only [k3]; cbv; try simp only [k3]; cbv; try simp only [k3]; cbv) ?_
     refine goA 60 ?_
     refine rnd_stop (by simp) rfl ?_
     refine goA 60 ?_
     refine fn_ret rfl rfl (.val ?_)
     exact congrArg (Value.int .i64) hR.symm
theorem Pat.some_cells (p : Pat) : ∃ cs, p.enc = .agg cs := by obtain ⟨o, es, t, v, s, n, co, ec, cv, cf, ck, xk, xn, xt, h⟩ := Pat.form p; exact ⟨_, h⟩
noncomputable def Pat.wholeE (p : Pat) : Int := if p.chkR ≠ 0 then p.chkR else firstE (fun q => if 8 ≤ q.op then 1 else 0) p.nodes
theorem P_whole (p : Pat) (hs : p.Sm) : PCall EE 36 [p.enc] (int p.wholeE) := by
 have h1 := P_CheckRest p hs
 have hcl := Pat.closed p
 obtain ⟨R, hR⟩ : ∃ R, R = p.wholeE := ⟨_, rfl⟩
 rw [← hR]
 unfold Pat.wholeE at hR
 obtain ⟨pcs, hpe⟩ := Pat.some_cells p
 have hpre := P_preorder p hpe
 obtain ⟨pO, pA, pT, pV, pS, pN, pCo, pCa, pCv, pCf, pCk, pXk, pXn, pXt, hx⟩ := Pat.form p
 rw [hx] at h1 hcl hpe ⊢
 injection hpe with hpe
 subst hpe
 have hip : (AV.fn 67 [.iptr [int pO, .isl 14 pA, int pT, int pV, int pS, int pN, int pCo, .isl 8 pCa, int pCv, int pCf, int pCk, int pXk, int pXn, str pXt]]).closed = true := by simp only [closed_fn, AV.closedL, closed_iptr, Bool.and_true]; exact hcl
 generalize p.chkR = rn at *
 refine wordsN ?_; unhygienic intros
 refine fn_body (fn := Tryz.f36) (n := 16) (ac := Tryzc36) (rvs := [.cell 2 1 false]) rfl (by decide) Tryzp36 rfl rfl rfl ?_
 by_cases g1 : rn = 0
 rotate_left
 · have k1 : iNe rn 0 = true := by simp only [ee]; simpa using g1
   rw [if_pos g1] at hR
   refine goA 60 ?_
   refine oPA h1 ?_
   refine goB hX 0 (by conv => lhs; cbv; try simp only [k1]; cbv; try simp only [k1]; cbv; try simp only [k1]; cbv; try simp only [k1]; cbv) ?_
   refine goA 60 ?_
   refine fn_ret rfl rfl (.val ?_)
   exact congrArg (Value.int .i64) hR.symm
 have k1 : iNe rn 0 = false := by simp only [ee]; simpa using g1
 rw [if_neg (by simpa using g1)] at hR
 refine goA 60 ?_
 refine oPA h1 ?_
 refine goB hX 0 (by conv => lhs; cbv; try simp only [k1]; cbv; try simp only [k1]; cbv; try simp only [k1]; cbv; try simp only [k1]; cbv) ?_
 refine goA 60 ?_
 refine oPA hpre ?_
 refine goA 60 ?_
 refine on_ent (F' := [(11, .fn 67 [.iptr [int pO, .isl 14 pA, int pT, int pV, int pS, int pN, int pCo, .isl 8 pCa, int pCv, int pCf, int pCk, int pXk, int pXn, str pXt]]), (2, .ptr 0 0)]) (H' := [.cells [int 0], .dead, .dead, .dead, .dead, .dead, .dead]) ?_ ?_
 · exact (ent_sub [.gone, .to 0] [some 1, none, none, none, none, none, none] ⟨trivial, ⟨by simp, rfl⟩, trivial⟩ ⟨osrc_cells (b := 1) rfl rfl rfl ⟨.refl _, trivial⟩, .dead, .dead, .dead, .dead, .dead, .dead, trivial⟩ ⟨.cl hip, .refl _, trivial⟩)
 refine on_preorder (fun _ => .cells [int 0]) (fun _ => .dead) (fun _ => .dead) (fun _ => .dead) (fun _ => .dead) (fun _ => .dead) (fun _ => .dead) (fun _ => .dead) (fun _ => .dead) (fun d => ∀ q ∈ d, (if 8 ≤ q.op then 1 else 0 : Int) = 0) p hs hx rfl rfl ⟨.cl hip, .ptr (by decide), trivial⟩ (fun q hq => by cases hq) ?_ (fun _ => .cells ⟨.cl rfl, trivial⟩) (fun _ => .dead) (fun _ => .dead) (fun _ => .dead) (fun _ => .dead) (fun _ => .dead) (fun _ => .dead) (fun _ => .dead) (fun _ => .dead) (fun hall => ?_) (fun d q r hd hok => ?_)
 · exact (hent_sub [.to 0, .gone, .gone, .gone, .gone, .gone, .gone, .to 7] [some 0, some 1, some 2, some 3, some 4, some 5, some 6, some 7, none, none] rfl ⟨rfl, rfl, rfl, rfl, rfl, rfl, rfl, rfl, trivial⟩ (by simp) (by simp) ⟨⟨by simp, rfl⟩, trivial, trivial, trivial, trivial, trivial, trivial, ⟨by simp, rfl⟩, trivial⟩ ⟨osrc_cells (b := 0) rfl rfl rfl ⟨.refl _, trivial⟩, .dead, .dead, .dead, .dead, .dead, .dead, .some 7 _ _ rfl rfl rfl (.loop _ _ _ _ _ _ _ _ ⟨.cl hip, .refl _, trivial⟩), .dead, .dead, trivial⟩)
 · have hR : R = 0 := by rw [hR]; exact firstE_ok hall
   refine goA 60 ?_
   refine fn_ret rfl rfl (.val ?_)
   exact congrArg (Value.int .i64) hR.symm
 · have hqc := Pat.closed q
   have hfe := fun h => firstE_at (F := fun q : Pat => (if 8 ≤ q.op then 1 else 0 : Int)) (r := r) hok (q := q) h
   rw [← hd] at hfe
   have hok2 : (if 8 ≤ q.op then 1 else 0 : Int) = 0 → ∀ q' ∈ d ++ [q], (if 8 ≤ q'.op then 1 else 0 : Int) = 0 := fun h q' hq' => by
    rcases List.mem_append.1 hq' with h' | h'
    · exact hok q' h'
    · simp at h'; rw [h']; exact h
   obtain ⟨qO, qA, qT, qV, qS, qN, qCo, qCa, qCv, qCf, qCk, qXk, qXn, qXt, hx2, hx2c, hqO, hqA, hqT, hqV, hqS, hqN⟩ := Pat.form2 q
   rw [hx2] at hqc ⊢
   rw [← hqO] at hfe hok2
   by_cases hqe : 8 ≤ qO
   · have k3 : iLe 8 qO = true := by simp only [ee]; simpa using hqe
     have hR : R = 1 := by rw [hR, hfe (by simp [hqe]), if_pos hqe]
     refine goA 60 ?_
     refine rnd_assign rfl ?_
     refine goB hX 0 (by conv => lhs; cbv; try simp only [k3]; cbv; try simp only [k3]; cbv; try simp only [k3]; cbv; try simp only [k3]; cbv) ?_
     refine goA 60 ?_
     refine rnd_stop (by simp) rfl ?_
     refine goA 60 ?_
     refine fn_ret rfl rfl (.val ?_)
     exact congrArg (Value.int .i64) hR.symm
   · have k3 : iLe 8 qO = false := by simp only [ee]; simp; omega
     refine goA 60 ?_
     refine rnd_assign rfl ?_
     refine goB hX 0 (by conv => lhs; cbv; try simp only [k3]; cbv; try simp only [k3]; cbv; try simp only [k3]; cbv; try simp only [k3]; cbv) ?_
     refine goA 60 ?_
     exact rnd_next rfl (hok2 (if_neg hqe)) (hent_sub [.to 0, .gone, .gone, .gone, .gone, .gone, .gone, .to 7, .gone, .gone, .gone] [some 0, some 1, some 2, some 3, some 4, some 5, some 6, some 7, none, none] rfl ⟨rfl, rfl, rfl, rfl, rfl, rfl, rfl, rfl, trivial⟩ (by simp) (by simp) ⟨⟨by simp, rfl⟩, trivial, trivial, trivial, trivial, trivial, trivial, ⟨by simp, rfl⟩, trivial, trivial, trivial, trivial⟩ ⟨osrc_cells (b := 0) rfl rfl rfl ⟨.refl _, trivial⟩, .dead, .dead, .dead, .dead, .dead, .dead, .some 7 _ _ rfl rfl rfl (.loop _ _ _ _ _ _ _ _ ⟨.cl hip, .refl _, trivial⟩), .dead, .dead, trivial⟩)
def cstep (s : Int × Int × Bool) (q : Pat) : Int × Int × Bool :=
 ((if typedF q.op then s.1 + 1 else s.1), (if scopeF q.op then s.2.1 + 1 else s.2.1), (s.2.2 && (!typedF q.op || q.var == s.1)) && (!scopeF q.op || q.scope == s.2.1))
def cfold (l : List Pat) : Int × Int × Bool := l.foldl cstep (0, 0, true)
theorem cfold_snoc (d : List Pat) (q : Pat) : cfold (d ++ [q]) = cstep (cfold d) q := by simp [cfold]
theorem cfold_bd (d : List Pat) : 0 ≤ (cfold d).1 ∧ (cfold d).1 ≤ d.length ∧ 0 ≤ (cfold d).2.1 ∧ (cfold d).2.1 ≤ d.length := by
 have : ∀ (l : List Pat) (s : Int × Int × Bool), s.1 ≤ (l.foldl cstep s).1 ∧ (l.foldl cstep s).1 ≤ s.1 + l.length ∧ s.2.1 ≤ (l.foldl cstep s).2.1 ∧ (l.foldl cstep s).2.1 ≤ s.2.1 + l.length := by
  intro l
  induction l with
  | nil => intro s; simp
  | cons q r ih =>
   intro s
   have := ih (cstep s q)
   simp only [List.foldl_cons, List.length_cons]
   simp only [cstep] at this ⊢
   split at this <;> split at this <;> simp_all <;> omega
 have := this d (0, 0, true)
 simpa [cfold] using this
theorem P_count (p : Pat) (hs : p.Sm) (hop : ∀ q ∈ p.nodes, 0 ≤ q.op ∧ q.op < 11) : PCall EE 50 [p.enc] (.tup [int (cfold p.nodes).1, int (cfold p.nodes).2.1, bool (cfold p.nodes).2.2]) := by
 have hcl := Pat.closed p
 have hcnt := Pat.nodes_len p
 have hs1 := hs.1
 obtain ⟨pcs, hpe⟩ := Pat.some_cells p
 have hpre := P_preorder p hpe
 obtain ⟨pO, pA, pT, pV, pS, pN, pCo, pCa, pCv, pCf, pCk, pXk, pXn, pXt, hx⟩ := Pat.form p
 rw [hx] at hcl hpe ⊢
 injection hpe with hpe
 subst hpe
 have hip : (AV.fn 67 [.iptr [int pO, .isl 14 pA, int pT, int pV, int pS, int pN, int pCo, .isl 8 pCa, int pCv, int pCf, int pCk, int pXk, int pXn, str pXt]]).closed = true := by simp only [closed_fn, AV.closedL, closed_iptr, Bool.and_true]; exact hcl
 refine wordsN ?_; unhygienic intros
 refine fn_body (fn := Tryz.f50) (n := 42) (ac := Tryzc50) (rvs := [.t 2, .t 3, .t 4]) rfl (by decide) Tryzp50 rfl rfl rfl ?_
 refine goA 60 ?_
 refine oPA hpre ?_
 refine goA 60 ?_
 refine on_ent (F' := [(11, .fn 67 [.iptr [int pO, .isl 14 pA, int pT, int pV, int pS, int pN, int pCo, .isl 8 pCa, int pCv, int pCf, int pCk, int pXk, int pXn, str pXt]]), (5, .ptr 0 0), (6, .ptr 1 0), (7, .ptr 2 0)]) (H' := [.cells [int 0], .cells [int 0], .cells [bool true], .dead, .dead, .dead, .dead]) ?_ ?_
 · exact (ent_sub [.gone, .to 0, .to 1, .to 2] [some 1, some 2, some 3, none, none, none, none] ⟨trivial, ⟨by simp, rfl⟩, ⟨by simp, rfl⟩, ⟨by simp, rfl⟩, trivial⟩ ⟨osrc_cells (b := 1) rfl rfl rfl ⟨.refl _, trivial⟩, osrc_cells (b := 2) rfl rfl rfl ⟨.refl _, trivial⟩, osrc_cells (b := 3) rfl rfl rfl ⟨.refl _, trivial⟩, .dead, .dead, .dead, .dead, trivial⟩ ⟨.cl hip, .refl _, .refl _, .refl _, trivial⟩)
 refine on_preorder (fun d => .cells [int (cfold d).1]) (fun d => .cells [int (cfold d).2.1]) (fun d => .cells [bool (cfold d).2.2]) (fun _ => .dead) (fun _ => .dead) (fun _ => .dead) (fun _ => .dead) (fun _ => .dead) (fun _ => .dead) (fun _ => True) p hs hx rfl rfl ⟨.cl hip, .ptr (by decide), .ptr (by decide), .ptr (by decide), trivial⟩ trivial ?_ (fun _ => .cells ⟨.cl rfl, trivial⟩) (fun _ => .cells ⟨.cl rfl, trivial⟩) (fun _ => .cells ⟨.cl rfl, trivial⟩) (fun _ => .dead) (fun _ => .dead) (fun _ => .dead) (fun _ => .dead) (fun _ => .dead) (fun _ => .dead) (fun _ => ?_) (fun d q r hd _ => ?_)
 · exact (hent_sub [.to 0, .to 1, .to 2, .gone, .gone, .gone, .gone, .to 7] [some 0, some 1, some 2, some 3, some 4, some 5, some 6, some 7, none, none] rfl ⟨rfl, rfl, rfl, rfl, rfl, rfl, rfl, rfl, trivial⟩ (by simp) (by simp) ⟨⟨by simp, rfl⟩, ⟨by simp, rfl⟩, ⟨by simp, rfl⟩, trivial, trivial, trivial, trivial, ⟨by simp, rfl⟩, trivial⟩ ⟨osrc_cells (b := 0) rfl rfl rfl ⟨.refl _, trivial⟩, osrc_cells (b := 1) rfl rfl rfl ⟨.refl _, trivial⟩, osrc_cells (b := 2) rfl rfl rfl ⟨.refl _, trivial⟩, .dead, .dead, .dead, .dead, .some 7 _ _ rfl rfl rfl (.loop _ _ _ _ _ _ _ _ ⟨.cl hip, .refl _, .refl _, .refl _, trivial⟩), .dead, .dead, trivial⟩)
 · generalize (cfold p.nodes).1 = c1 at *
   generalize (cfold p.nodes).2.1 = c2 at *
   generalize (cfold p.nodes).2.2 = c3 at *
   refine goA 60 ?_
   refine fn_ret rfl rfl ?_
   exact ⟨[.gone, .gone, .gone, .gone, .gone, .gone, .gone, .gone, .gone, .gone], ⟨trivial, trivial, trivial, trivial, trivial, trivial, trivial, trivial, trivial, trivial, trivial⟩, .refl _⟩
 · have hqc := Pat.closed q
   have hqo := hop q (by rw [hd]; simp)
   have hrow := shape_row hqo.1 hqo.2
   have hb := cfold_bd d
   have hdl : d.length ≤ 1048576 := by have := congrArg List.length hd; simp at this; omega
   have e1 : (cfold (d ++ [q])).1 = _ := congrArg (fun s => s.1) (cfold_snoc d q)
   have e2 : (cfold (d ++ [q])).2.1 = _ := congrArg (fun s => s.2.1) (cfold_snoc d q)
   have e3 : (cfold (d ++ [q])).2.2 = _ := congrArg (fun s => s.2.2) (cfold_snoc d q)
   dsimp only [cstep] at e1 e2 e3
   have hrw : rowA (Classical.choice tabBox_ne).g q.op 6 = [int (leastF q.op), int (mostF q.op), bool (typedF q.op), bool (condF q.op), bool (scopeF q.op), bool (spanF q.op)] := by rw [e_rowA]; exact hrow
   generalize leastF q.op = lo at *
   generalize mostF q.op = mo at *
   generalize hty : typedF q.op = ty at *
   generalize condF q.op = cd at *
   generalize hsc : scopeF q.op = sc at *
   generalize spanF q.op = sp at *
   clear hrow
   obtain ⟨qO, qA, qT, qV, qS, qN, qCo, qCa, qCv, qCf, qCk, qXk, qXn, qXt, hx2, hx2c, hqO, hqA, hqT, hqV, hqS, hqN⟩ := Pat.form2 q
   rw [hx2] at hqc ⊢
   simp only [← hqO, ← hqV, ← hqS] at *
   generalize (cfold d).1 = c1 at *
   generalize (cfold d).2.1 = c2 at *
   generalize (cfold d).2.2 = c3 at *
   generalize (cfold (d ++ [q])).1 = f1 at *
   generalize (cfold (d ++ [q])).2.1 = f2 at *
   generalize (cfold (d ++ [q])).2.2 = f3 at *
   clear hx2 hx2c hqO hqA hqT hqV hqS hqN hty hsc
   have a1 : iAdd .i64 c1 1 = c1 + 1 := add_w e_iAdd (by omega) (by omega)
   have a2 : iAdd .i64 c2 1 = c2 + 1 := add_w e_iAdd (by omega) (by omega)
   cases ty <;> cases sc
   · have e1 : c1 = f1 := by simpa using e1.symm
     have e2 : c2 = f2 := by simpa using e2.symm
     have e3 : c3 = f3 := by simpa using e3.symm
     refine goA 60 ?_
     refine rnd_assign rfl ?_
     refine goB hX 0 (by conv => lhs; cbv; try simp only [hrw]; cbv; try simp only [hrw]; cbv; try simp only [hrw]; cbv; try simp only [hrw]; cbv) ?_
     refine goA 60 ?_
     exact rnd_next rfl trivial (hent_sub [.to 0, .to 1, .to 2, .gone, .gone, .gone, .gone, .to 7, .gone, .gone, .gone, .gone] [some 0, some 1, some 2, some 3, some 4, some 5, some 6, some 7, none, none] rfl ⟨rfl, rfl, rfl, rfl, rfl, rfl, rfl, rfl, trivial⟩ (by simp) (by simp) ⟨⟨by simp, rfl⟩, ⟨by simp, rfl⟩, ⟨by simp, rfl⟩, trivial, trivial, trivial, trivial, ⟨by simp, rfl⟩, trivial, trivial, trivial, trivial, trivial⟩ ⟨osrc_cells (b := 0) rfl rfl rfl ⟨.of (congrArg int (by assumption)), trivial⟩, osrc_cells (b := 1) rfl rfl rfl ⟨.of (congrArg int (by assumption)), trivial⟩, osrc_cells (b := 2) rfl rfl rfl ⟨.of (congrArg bool (by assumption)), trivial⟩, .dead, .dead, .dead, .dead, .some 7 _ _ rfl rfl rfl (.loop _ _ _ _ _ _ _ _ ⟨.cl hip, .refl _, .refl _, .refl _, trivial⟩), .dead, .dead, trivial⟩)
   · have e1 : c1 = f1 := by simpa using e1.symm
     have e2 : iAdd .i64 c2 1 = f2 := by rw [a2]; simpa using e2.symm
     have e3 : bAnd c3 (iEq qS c2) = f3 := by simp only [ee]; simpa using e3.symm
     refine goA 60 ?_
     refine rnd_assign rfl ?_
     refine goB hX 0 (by conv => lhs; cbv; try simp only [hrw]; cbv; try simp only [hrw]; cbv; try simp only [hrw]; cbv; try simp only [hrw]; cbv) ?_
     refine goA 60 ?_
     exact rnd_next rfl trivial (hent_sub [.to 0, .to 1, .to 2, .gone, .gone, .gone, .gone, .to 7, .gone, .gone, .gone, .gone] [some 0, some 1, some 2, some 3, some 4, some 5, some 6, some 7, none, none] rfl ⟨rfl, rfl, rfl, rfl, rfl, rfl, rfl, rfl, trivial⟩ (by simp) (by simp) ⟨⟨by simp, rfl⟩, ⟨by simp, rfl⟩, ⟨by simp, rfl⟩, trivial, trivial, trivial, trivial, ⟨by simp, rfl⟩, trivial, trivial, trivial, trivial, trivial⟩ ⟨osrc_cells (b := 0) rfl rfl rfl ⟨.of (congrArg int (by assumption)), trivial⟩, osrc_cells (b := 1) rfl rfl rfl ⟨.of (congrArg int (by assumption)), trivial⟩, osrc_cells (b := 2) rfl rfl rfl ⟨.of (congrArg bool (by assumption)), trivial⟩, .dead, .dead, .dead, .dead, .some 7 _ _ rfl rfl rfl (.loop _ _ _ _ _ _ _ _ ⟨.cl hip, .refl _, .refl _, .refl _, trivial⟩), .dead, .dead, trivial⟩)
   · have e1 : iAdd .i64 c1 1 = f1 := by rw [a1]; simpa using e1.symm
     have e2 : c2 = f2 := by simpa using e2.symm
     have e3 : bAnd c3 (iEq qV c1) = f3 := by simp only [ee]; simpa using e3.symm
     refine goA 60 ?_
     refine rnd_assign rfl ?_
     refine goB hX 0 (by conv => lhs; cbv; try simp only [hrw]; cbv; try simp only [hrw]; cbv; try simp only [hrw]; cbv; try simp only [hrw]; cbv) ?_
     refine goA 60 ?_
     exact rnd_next rfl trivial (hent_sub [.to 0, .to 1, .to 2, .gone, .gone, .gone, .gone, .to 7, .gone, .gone, .gone, .gone] [some 0, some 1, some 2, some 3, some 4, some 5, some 6, some 7, none, none] rfl ⟨rfl, rfl, rfl, rfl, rfl, rfl, rfl, rfl, trivial⟩ (by simp) (by simp) ⟨⟨by simp, rfl⟩, ⟨by simp, rfl⟩, ⟨by simp, rfl⟩, trivial, trivial, trivial, trivial, ⟨by simp, rfl⟩, trivial, trivial, trivial, trivial, trivial⟩ ⟨osrc_cells (b := 0) rfl rfl rfl ⟨.of (congrArg int (by assumption)), trivial⟩, osrc_cells (b := 1) rfl rfl rfl ⟨.of (congrArg int (by assumption)), trivial⟩, osrc_cells (b := 2) rfl rfl rfl ⟨.of (congrArg bool (by assumption)), trivial⟩, .dead, .dead, .dead, .dead, .some 7 _ _ rfl rfl rfl (.loop _ _ _ _ _ _ _ _ ⟨.cl hip, .refl _, .refl _, .refl _, trivial⟩), .dead, .dead, trivial⟩)
   · have e1 : iAdd .i64 c1 1 = f1 := by rw [a1]; simpa using e1.symm
     have e2 : iAdd .i64 c2 1 = f2 := by rw [a2]; simpa using e2.symm
     have e3 : bAnd (bAnd c3 (iEq qV c1)) (iEq qS c2) = f3 := by simp only [ee]; simpa using e3.symm
     refine goA 60 ?_
     refine rnd_assign rfl ?_
     refine goB hX 0 (by conv => lhs; cbv; try simp only [hrw]; cbv; try simp only [hrw]; cbv; try simp only [hrw]; cbv; try simp only [hrw]; cbv) ?_
     refine goA 60 ?_
     exact rnd_next rfl trivial (hent_sub [.to 0, .to 1, .to 2, .gone, .gone, .gone, .gone, .to 7, .gone, .gone, .gone, .gone] [some 0, some 1, some 2, some 3, some 4, some 5, some 6, some 7, none, none] rfl ⟨rfl, rfl, rfl, rfl, rfl, rfl, rfl, rfl, trivial⟩ (by simp) (by simp) ⟨⟨by simp, rfl⟩, ⟨by simp, rfl⟩, ⟨by simp, rfl⟩, trivial, trivial, trivial, trivial, ⟨by simp, rfl⟩, trivial, trivial, trivial, trivial, trivial⟩ ⟨osrc_cells (b := 0) rfl rfl rfl ⟨.of (congrArg int (by assumption)), trivial⟩, osrc_cells (b := 1) rfl rfl rfl ⟨.of (congrArg int (by assumption)), trivial⟩, osrc_cells (b := 2) rfl rfl rfl ⟨.of (congrArg bool (by assumption)), trivial⟩, .dead, .dead, .dead, .dead, .some 7 _ _ rfl rfl rfl (.loop _ _ _ _ _ _ _ _ ⟨.cl hip, .refl _, .refl _, .refl _, trivial⟩), .dead, .dead, trivial⟩)
theorem P_ref09_Nodes : ∀ p : Pat, p.Sm → PCall EE 31 [p.enc] (.isl 14 (mapE Pat.enc p.nodes)) := by
 refine Pat.ind ?_
 intro o a t v s n c ih hs
 obtain ⟨pp, hpp⟩ : ∃ pp, pp = Pat.mk o a t v s n c := ⟨_, rfl⟩
 have hpe : pp.enc = (Pat.mk o a t v s n c).enc := by rw [hpp]
 obtain ⟨co, ca, cv, cf, ck, xk, xn, xt⟩ := c
 have hlen := hs.len
 have hih : ∀ q ∈ a, PCall EE 31 [q.enc] (.isl 14 (mapE Pat.enc q.nodes)) := fun q hq => ih q hq (hs.arg hq)
 have hcl := Pat.closedI a
 have hce := Ex.closedI ca
 have hcnt : Pat.cntL a ≤ 1048575 := by have hs := hs.1; simp only [Pat.cnt] at hs; omega
 simp only [Pat.nodes]
 rw [← hpp]
 rw [Pat.enc_mk] at hpe
 clear hpp
 have hpc := Pat.closed pp
 rw [hpe] at hpc ⊢
 refine wordsN ?_; unhygienic intros
 generalize hes : mapE Pat.enc a = es at *
 generalize mapE Ex.enc ca = ec at *
 have hel : es.length = a.length := by rw [← hes, mapE_len]
 have hone : ∀ x, AV.closedL [x] = x.closed := by simp [AV.closedL]
 have hw0 : [AV.agg [int o, .isl 14 es, int t, int v, int s, int n, int co, .isl 8 ec, int cv, int cf, int ck, int xk, int xn, str xt]] = mapE Pat.enc (pp :: Pat.nodesL []) := by rw [mapE_eq, Pat.nodesL, List.map_cons, hpe]; rfl
 have hcw0 : AV.closedL [AV.agg [int o, .isl 14 es, int t, int v, int s, int n, int co, .isl 8 ec, int cv, int cf, int ck, int xk, int xn, str xt]] = true := by rw [hone]; exact hpc
 refine fn_body (fn := Tryz.f31) (n := 23) (ac := Tryzc31) (rvs := [.t 2]) rfl (by decide) Tryzp31 rfl rfl rfl ?_
 refine goA 60 ?_
 refine on_loopP (ι := List Pat × List Pat × Int × Nat × List AV) (fun p => ([(3, .sl 1 14 0 p.2.2.2.1), (4, int p.2.2.1), (1, .ptr 0 0)], [.cells [int o, .isl 14 es, int t, int v, int s, int n, int co, .isl 8 ec, int cv, int cf, int ck, int xk, int xn, str xt], .arr 14 p.2.2.2.2])) (fun p => a = p.1 ++ p.2.1 ∧ p.2.2.1 = p.1.length ∧ p.2.2.2.1 = p.2.2.2.2.length ∧ p.2.2.2.2 = mapE Pat.enc (pp :: Pat.nodesL p.1)) (fun p => p.2.1.length) ([], a, 0, 1, [AV.agg [int o, .isl 14 es, int t, int v, int s, int n, int co, .isl 8 ec, int cv, int cf, int ck, int xk, int xn, str xt]]) ⟨rfl, rfl, rfl, hw0⟩ ?_ ?_
 · exact (ent_sub [.to 0, .to 1] [some 0, some 1] ⟨⟨by simp, rfl⟩, ⟨by simp, rfl⟩, trivial⟩ ⟨osrc_cells (b := 0) rfl rfl rfl ⟨.refl _, .cl hcl, .refl _, .refl _, .refl _, .refl _, .refl _, .cl hce, .refl _, .refl _, .refl _, .refl _, .refl _, .refl _, trivial⟩, osrc_arr (b := 1) rfl rfl rfl rfl hcw0, trivial⟩ ⟨.refl _, .refl _, .refl _, trivial⟩)
 rintro ⟨d, r, i, m, w⟩ ⟨g1, gi, gm, gw⟩
 dsimp only at g1 gi gm gw ⊢
 have hcw : AV.closedL w = true := by rw [gw]; exact Pat.closedL _
 have hm : m = Pat.cntL d + 1 := by rw [gm, gw, mapE_len, List.length_cons, Pat.nodesL_len']
 cases r with
 | nil =>
  have L1 := len_split g1
  try simp only [List.length] at L1
  have hc : iLt i (lenA es) = false := lt_f e_iLt e_lenA (by omega)
  rw [List.append_nil] at g1
  rw [g1, ← gw]
  refine goB hX 0 (by conv => lhs; cbv; try simp only [hc]; cbv; try simp only [hc]; cbv; try simp only [hc]; cbv; try simp only [hc]; cbv) ?_
  refine goA 60 ?_
  refine loopP_exit ?_
  refine goA 60 ?_
  refine fn_ret rfl rfl ?_
  exact ⟨[.gone, .isl 14 (w)], ⟨trivial, ⟨_, rfl, (subL_closed _ hcw).symm⟩, trivial⟩, .of (sub_whole rfl (by omega))⟩
 | cons q r =>
  have L1 := len_split g1
  try simp only [List.length] at L1
  have hc : iLt i (lenA es) = true := lt_t e_iLt e_lenA (by omega)
  have hat := el_at e_atA hes g1 gi
  have hq := hih q (by rw [g1]; simp)
  have hqc := Pat.closed q
  rw [g1, Pat.cntL_append, Pat.cntL] at hcnt
  have hfit := fitPat q.nodes
  have hcq := Pat.closedL q.nodes
  have hql : (mapE Pat.enc q.nodes).length = q.cnt := by rw [mapE_len, Pat.nodes_len]
  obtain ⟨qO, qA, qT, qV, qS, qN, qCo, qCa, qCv, qCf, qCk, qXk, qXn, qXt, hx⟩ := Pat.form q
  rw [hx] at hq hat hqc
  have hw2 : catA (dropA w 0) (mapE Pat.enc q.nodes) = mapE Pat.enc (pp :: Pat.nodesL (d ++ [q])) := by
   simp only [ee]; rw [gw, List.drop_zero, mapE_eq, mapE_eq, mapE_eq, ← List.map_append, Pat.nodesL_append]; simp [Pat.nodesL]
  generalize mapE Pat.enc q.nodes = eq at *
  have hi2 : iAdd .i64 i 1 = ((d ++ [q]).length : Int) := by rw [List.length_append]; exact inc_w e_iAdd gi (by omega)
  have hm2 : addN m (lenN eq) = (catA (dropA w 0) eq).length := by simp only [ee]; simp [gm]
  have hcw2 : AV.closedL (catA (dropA w 0) eq) = true := by rw [hw2]; exact Pat.closedL _
  refine goB hX 0 (by conv => lhs; cbv; try simp only [hc, hat]; cbv; try simp only [hc, hat]; cbv; try simp only [hc, hat]; cbv; try simp only [hc, hat]; cbv) ?_
  refine goB hX 1 (by conv => lhs; cbv; try simp only [hc, hat]; cbv; try simp only [hc, hat]; cbv; try simp only [hc, hat]; cbv; try simp only [hc, hat]; cbv) ?_
  refine oPA hq ?_
  refine goA 60 ?_
  refine loopP_next (d ++ [q], r, iAdd .i64 i 1, addN m (lenN eq), catA (dropA w 0) eq) ⟨by simp [g1], hi2, hm2, hw2⟩ (by simp) (ent_sub [.to 0, .gone, .to 1] [some 0, some 2] ⟨⟨by simp, rfl⟩, trivial, ⟨by simp, rfl⟩, trivial⟩ ⟨osrc_cells (b := 0) rfl rfl rfl ⟨.refl _, .cl hcl, .refl _, .refl _, .refl _, .refl _, .refl _, .cl hce, .refl _, .refl _, .refl _, .refl _, .refl _, .refl _, trivial⟩, osrc_arr (b := 2) rfl rfl rfl rfl hcw2, trivial⟩ ⟨.refl _, .refl _, .refl _, trivial⟩)
theorem wholeE_ok {p : Pat} (h : p.wholeE = 0) : p.chkR = 0 ∧ (∀ q ∈ p.nodes, q.nodeE = 0) ∧ ∀ q ∈ p.nodes, q.op < 8 := by
 unfold Pat.wholeE at h
 by_cases h1 : p.chkR = 0
 · rw [if_neg (by simpa using h1)] at h
   have fe : ∀ {F : Pat → Int} {l : List Pat}, firstE F l = 0 → ∀ q ∈ l, F q = 0 := by
    intro F l
    induction l with
    | nil => intro _ q hq; cases hq
    | cons x r ih =>
     intro hf q hq
     rw [firstE] at hf
     by_cases hx : F x = 0
     · rw [if_neg (by simpa using hx)] at hf
       rcases List.mem_cons.1 hq with rfl | hq
       · exact hx
       · exact ih hf q hq
     · rw [if_pos hx] at hf; exact absurd hf hx
   refine ⟨h1, ?_, fun q hq => ?_⟩
   · unfold Pat.chkR at h1
     split at h1
     · cases h1
     · split at h1
       · cases h1
       · exact fe h1
   · have := fe h q hq
     by_cases h8 : 8 ≤ q.op
     · simp [h8] at this
     · omega
 · rw [if_pos h1] at h; exact absurd h h1
theorem nodeE_op {q : Pat} (h : q.nodeE = 0) : 0 ≤ q.op ∧ q.op < 11 := by
 unfold Pat.nodeE at h
 by_cases h1 : q.op < 0 ∨ 11 ≤ q.op
 · rw [if_pos h1] at h; cases h
 · omega
noncomputable def Pat.chk (p : Pat) : Int := if p.wholeE ≠ 0 then p.wholeE else if (cfold p.nodes).2.2 = true then 0 else 14
theorem P_pattern_Check (p : Pat) (hs : p.Sm) : PCall EE 17 [p.enc] (int p.chk) := by
 have h1 := P_whole p hs
 have h2 := fun h : p.wholeE = 0 => P_count p hs fun q hq => nodeE_op ((wholeE_ok h).2.1 q hq)
 have hcl := Pat.closed p
 obtain ⟨R, hR⟩ : ∃ R, R = p.chk := ⟨_, rfl⟩
 rw [← hR]
 unfold Pat.chk at hR
 generalize p.wholeE = rn at *
 generalize (cfold p.nodes).1 = c1 at *
 generalize (cfold p.nodes).2.1 = c2 at *
 generalize (cfold p.nodes).2.2 = c3 at *
 obtain ⟨pO, pA, pT, pV, pS, pN, pCo, pCa, pCv, pCf, pCk, pXk, pXn, pXt, hx⟩ := Pat.form p
 rw [hx] at h1 h2 hcl ⊢
 refine wordsN ?_; unhygienic intros
 refine fn_body (fn := Tryz.f17) (n := 20) (ac := Tryzc17) (rvs := [.t 2]) rfl (by decide) Tryzp17 rfl rfl rfl ?_
 by_cases g1 : rn = 0
 rotate_left
 · have k1 : iNe rn 0 = true := by simp only [ee]; simpa using g1
   rw [if_pos g1] at hR
   refine goA 60 ?_
   refine oPA h1 ?_
   refine goB hX 0 (by conv => lhs; cbv; try simp only [k1]; cbv; try simp only [k1]; cbv; try simp only [k1]; cbv; try simp only [k1]; cbv) ?_
   refine goA 60 ?_
   refine fn_ret rfl rfl (.val ?_)
   exact congrArg (Value.int .i64) hR.symm
 have k1 : iNe rn 0 = false := by simp only [ee]; simpa using g1
 have h2 := h2 g1
 rw [if_neg (by simpa using g1)] at hR
 cases c3 with
 | true =>
  have k2 : bNot true = false := by simp only [ee]; rfl
  refine goA 60 ?_
  refine oPA h1 ?_
  refine goB hX 0 (by conv => lhs; cbv; try simp only [k1, k2]; cbv; try simp only [k1, k2]; cbv; try simp only [k1, k2]; cbv; try simp only [k1, k2]; cbv) ?_
  refine goA 60 ?_
  refine oPA h2 ?_
  refine goB hX 0 (by conv => lhs; cbv; try simp only [k1, k2]; cbv; try simp only [k1, k2]; cbv; try simp only [k1, k2]; cbv; try simp only [k1, k2]; cbv) ?_
  refine goA 60 ?_
  refine fn_ret rfl rfl (.val ?_)
  exact congrArg (Value.int .i64) hR.symm
 | false =>
  have k2 : bNot false = true := by simp only [ee]; rfl
  refine goA 60 ?_
  refine oPA h1 ?_
  refine goB hX 0 (by conv => lhs; cbv; try simp only [k1, k2]; cbv; try simp only [k1, k2]; cbv; try simp only [k1, k2]; cbv; try simp only [k1, k2]; cbv) ?_
  refine goA 60 ?_
  refine oPA h2 ?_
  refine goB hX 0 (by conv => lhs; cbv; try simp only [k1, k2]; cbv; try simp only [k1, k2]; cbv; try simp only [k1, k2]; cbv; try simp only [k1, k2]; cbv) ?_
  refine goA 60 ?_
  refine fn_ret rfl rfl (.val ?_)
  exact congrArg (Value.int .i64) hR.symm
def Pat0 : Pat := .mk 0 [] 0 0 0 0 Ex0
theorem Pat0.enc_eq : Pat0.enc = .agg [int 0, .isl 14 [], int 0, int 0, int 0, int 0, int 0, .isl 8 [], int 0, int 0, int 0, int 0, int 0, str ⟨#[]⟩] := by
 rw [Pat0, Ex0, Pat.enc_mk, mapE_eq, mapE_eq]; rfl
noncomputable def nrenE (to : List Int) (q : Pat) : Int :=
 if typedF q.op = true ∧ (to.length : Int) ≤ q.var then 6
 else if typedF q.op = true ∧ (to.getD q.var.toNat 0 < 0 ∨ 16 ≤ to.getD q.var.toNat 0) then 2
 else if condF q.op = true then q.cond.renErr to else 0
noncomputable def Pat.renErr (to : List Int) (p : Pat) : Int := if p.chkR ≠ 0 then p.chkR else firstE (nrenE to) p.nodes
noncomputable def Pat.rename (to : List Int) (p : Pat) : Pat := if p.renErr to = 0 then p.ren to else Pat0
theorem chkR_nodes {p : Pat} (h : p.chkR = 0) : ∀ q ∈ p.nodes, q.nodeE = 0 := by
 unfold Pat.chkR at h
 split at h
 · cases h
 · split at h
   · cases h
   · exact firstE_zero h
theorem nodeE_var {q : Pat} (h : q.nodeE = 0) : typedF q.op = true → 0 ≤ q.var ∧ q.var ≤ 15 := by
 intro ht
 unfold Pat.nodeE at h
 by_cases h1 : q.op < 0 ∨ 11 ≤ q.op
 · rw [if_pos h1] at h; cases h
 rw [if_neg h1] at h
 by_cases h2 : (q.args.length : Int) < leastF q.op ∨ mostF q.op < q.args.length
 · rw [if_pos h2] at h; cases h
 rw [if_neg h2] at h
 by_cases h3 : (typedF q.op = true ∧ (q.ty < 0 ∨ 15 < q.ty ∨ q.var < 0 ∨ 15 < q.var)) ∨ (scopeF q.op = true ∧ (q.scope < 0 ∨ 63 < q.scope)) ∨ (spanF q.op = true ∧ (q.span < 0 ∨ 1099511627776 < q.span))
 · rw [if_pos h3] at h; cases h
 · exact ⟨Int.not_lt.1 fun hh => h3 (.inl ⟨ht, .inr (.inr (.inl hh))⟩), Int.not_lt.1 fun hh => h3 (.inl ⟨ht, .inr (.inr (.inr hh))⟩)⟩
theorem P_Index (l : List Int) (v : Int) (hl : l.length < 1048577) : ∃ j : Int, (0 ≤ j ↔ v ∈ l) ∧ PCall EE 69 [.isl 1 (mapE int l), int v] (int j) := by
 obtain ⟨j, hj1, hj2⟩ : ∃ j : Int, (v ∉ l → j = -1) ∧ (∀ d r, l = d ++ v :: r → v ∉ d → j = d.length) := by
  by_cases h : v ∈ l
  · obtain ⟨d, r, rfl, hd⟩ := List.eq_append_cons_of_mem h
    refine ⟨d.length, fun hn => absurd h hn, fun d2 r2 e hd2 => ?_⟩
    have : ∀ (d d2 : List Int) (r r2 : List Int), d ++ v :: r = d2 ++ v :: r2 → v ∉ d → v ∉ d2 → d.length = d2.length := by
     intro d
     induction d with
     | nil =>
      intro d2 r r2 e _ h2
      cases d2 with
      | nil => rfl
      | cons x y => simp at e; simp [e.1] at h2
     | cons x y ih =>
      intro d2 r r2 e h1 h2
      cases d2 with
      | nil => simp at e; simp [e.1] at h1
      | cons x2 y2 =>
       simp at e h1 h2
       simp [ih y2 r r2 e.2 h1.2 h2.2]
    rw [this d d2 r r2 e hd hd2]
  · exact ⟨-1, fun _ => rfl, fun d r e => absurd (by rw [e]; simp) h⟩
 refine ⟨j, ?_, ?_⟩
 · constructor
   · intro h; exact Classical.byContradiction fun hn => by have := hj1 hn; omega
   · intro h
     obtain ⟨d, r, e, hd⟩ := List.eq_append_cons_of_mem h
     have := hj2 d r e hd; omega
 have hcl := closedI_int l
 refine wordsN ?_; unhygienic intros
 generalize hes : mapE int l = es at *
 have hel : es.length = l.length := by rw [← hes, mapE_len]
 refine fn_body (fn := Tryz.f69) (n := 19) (ac := Tryzc69) (rvs := [.t 4]) rfl (by decide) Tryzp69 rfl rfl rfl ?_
 refine goA 60 ?_
 refine on_loopP (ι := List Int × List Int × Int) (fun p => ([(8, int p.2.2), (7, int (lenA es)), (0, .isl 1 es), (1, int v)], [])) (fun p => l = p.1 ++ p.2.1 ∧ p.2.2 = p.1.length ∧ v ∉ p.1) (fun p => p.2.1.length) ([], l, 0) ⟨rfl, rfl, by simp⟩ ?_ ?_
 · exact (ent_sub [] [] trivial trivial ⟨.refl _, .refl _, .cl hcl, .refl _, trivial⟩)
 rintro ⟨d, r, i⟩ ⟨g1, gi, gv⟩
 dsimp only at g1 gi gv ⊢
 cases r with
 | nil =>
  have L1 := len_split g1
  try simp only [List.length] at L1
  have hc : iLt i (lenA es) = false := lt_f e_iLt e_lenA (by omega)
  rw [List.append_nil] at g1
  have hj : j = -1 := hj1 (by rw [g1]; exact gv)
  refine goB hX 0 (by conv => lhs; cbv; try simp only [hc]; cbv; try simp only [hc]; cbv; try simp only [hc]; cbv; try simp only [hc]; cbv) ?_
  refine goA 60 ?_
  refine loopP_exit ?_
  refine goA 60 ?_
  refine fn_ret rfl rfl (.val ?_)
  exact congrArg (Value.int .i64) hj.symm
 | cons q r =>
  have L1 := len_split g1
  try simp only [List.length] at L1
  have hc : iLt i (lenA es) = true := lt_t e_iLt e_lenA (by omega)
  have hat := el_at e_atA hes g1 gi
  have hi2 : iAdd .i64 i 1 = ((d ++ [q]).length : Int) := by rw [List.length_append]; exact inc_w e_iAdd gi (by omega)
  by_cases hq : v = q
  · have k1 : iEq v q = true := by simp only [ee]; simpa using hq
    have hj : i = j := by rw [hj2 d r (by rw [g1, hq]) gv]; exact gi
    refine goB hX 0 (by conv => lhs; cbv; try simp only [hc, hat, k1]; cbv; try simp only [hc, hat, k1]; cbv; try simp only [hc, hat, k1]; cbv; try simp only [hc, hat, k1]; cbv) ?_
    refine goB hX 1 (by conv => lhs; cbv; try simp only [hc, hat, k1]; cbv; try simp only [hc, hat, k1]; cbv; try simp only [hc, hat, k1]; cbv; try simp only [hc, hat, k1]; cbv) ?_
    refine goA 60 ?_
    refine loopP_ret ?_
    refine goA 60 ?_
    refine fn_ret rfl rfl (.val ?_)
    exact congrArg (Value.int .i64) hj
  · have k1 : iEq v q = false := by simp only [ee]; simpa using hq
    have gv2 : v ∉ d ++ [q] := by simp [gv, hq]
    refine goB hX 0 (by conv => lhs; cbv; try simp only [hc, hat, k1]; cbv; try simp only [hc, hat, k1]; cbv; try simp only [hc, hat, k1]; cbv; try simp only [hc, hat, k1]; cbv) ?_
    refine goB hX 1 (by conv => lhs; cbv; try simp only [hc, hat, k1]; cbv; try simp only [hc, hat, k1]; cbv; try simp only [hc, hat, k1]; cbv; try simp only [hc, hat, k1]; cbv) ?_
    refine goA 60 ?_
    refine loopP_next (d ++ [q], r, iAdd .i64 i 1) ⟨by simp [g1], hi2, gv2⟩ (by simp) (ent_sub [] [] trivial trivial ⟨.refl _, .refl _, .cl hcl, .refl _, trivial⟩)
theorem P_Contains (l : List Int) (v : Int) (hl : l.length < 1048577) : PCall EE 39 [.isl 1 (mapE int l), int v] (bool (decide (v ∈ l))) := by
 obtain ⟨j, hj, h1⟩ := P_Index l v hl
 have hcl := closedI_int l
 obtain ⟨R, hR⟩ : ∃ R, R = decide (v ∈ l) := ⟨_, rfl⟩
 rw [← hR]
 refine wordsN ?_; unhygienic intros
 generalize mapE int l = es at *
 refine fn_body (fn := Tryz.f39) (n := 9) (ac := Tryzc39) (rvs := [.t 4]) rfl (by decide) Tryzp39 rfl rfl rfl ?_
 have hRe : iLe 0 j = R := by simp only [ee]; rw [hR]; simp [hj]
 refine goA 60 ?_
 refine oPA h1 ?_
 refine goA 60 ?_
 refine fn_ret rfl rfl (.val ?_)
 exact congrArg Value.bool hRe
end Go.Am
end
