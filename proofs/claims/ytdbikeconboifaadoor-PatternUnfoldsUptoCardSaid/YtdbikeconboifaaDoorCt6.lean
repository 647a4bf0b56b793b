/- Contracts of the program's functions, for every argument that meets the conditions that each theorem names. -/
import Derived.Test.YtdbikeconboifaaDoorAm6
import Derived.Test.YtdbikeconboifaaDoorCt5
section
set_option linter.unusedVariables false
set_option linter.unusedSimpArgs false
set_option maxRecDepth 20000
namespace Go.Am
open Go.Proofs
theorem dropL {l : List Pat} (h : ∀ e ∈ l, ∀ i x, e.nodes[i]? = some x → ∃ rest, e.nodes.drop i = x.nodes ++ rest) : ∀ i x, (Pat.nodesL l)[i]? = some x → ∃ rest, (Pat.nodesL l).drop i = x.nodes ++ rest := by
  induction l with
  | nil => intro i x hx; simp [Pat.nodesL] at hx
  | cons e r ih =>
    intro i x hx
    rw [Pat.nodesL] at hx ⊢
    by_cases hi : i < e.nodes.length
    · rw [List.getElem?_append_left hi] at hx
      obtain ⟨rest, hr⟩ := h e (by simp) i x hx
      exact ⟨rest ++ Pat.nodesL r, by rw [List.drop_append_of_le_length (by omega), hr, List.append_assoc]⟩
    · rw [List.getElem?_append_right (by omega)] at hx
      obtain ⟨rest, hr⟩ := ih (fun e he => h e (by simp [he])) _ x hx
      exact ⟨rest, by rw [List.drop_append, List.drop_eq_nil_of_le (by omega), List.nil_append]; exact hr⟩
theorem drop_node : ∀ p : Pat, ∀ i x, p.nodes[i]? = some x → ∃ rest, p.nodes.drop i = x.nodes ++ rest := Pat.ind fun o a t v s n c h i x hx => by
  cases i with
  | zero => rw [Pat.nodes] at hx; simp at hx; subst hx; exact ⟨[], by simp [Pat.nodes]⟩
  | succ i =>
    rw [Pat.nodes] at hx ⊢
    simpa using dropL h i x (by simpa using hx)
theorem nodeAt_get {p : Pat} {i : Int} (h0 : 0 ≤ i) (h1 : i < p.cnt) : p.nodes[i.toNat]? = some (p.nodeAt i) := by
  have hl := Pat.nodes_len p
  unfold Pat.nodeAt
  rw [if_pos (by omega), List.getD_eq_getElem?_getD, List.getElem?_eq_getElem (by omega)]; rfl
theorem child_at {p : Pat} {i : Int} (h0 : 0 ≤ i) (h1 : i < p.cnt) {d r : List Pat} {y : Pat} (ha : (p.nodeAt i).args = d ++ y :: r) : p.nodeAt (i + 1 + Pat.cntL d) = y ∧ i + 1 + Pat.cntL d < p.cnt := by
  obtain ⟨rest, hr⟩ := drop_node p _ _ (nodeAt_get h0 h1)
  have hl := Pat.nodes_len p
  have hg : p.nodes[i.toNat + (1 + Pat.cntL d)]? = some y := by
    rw [← List.getElem?_drop, hr, Pat.nodes_eq, ha, Pat.nodesL_append, Pat.nodesL, Pat.nodes_eq y]
    rw [List.cons_append, Nat.add_comm 1, List.getElem?_cons_succ, List.append_assoc, List.getElem?_append_right (by rw [Pat.nodesL_len']; omega), Pat.nodesL_len', Nat.sub_self]
    rfl
  have hlt : i.toNat + (1 + Pat.cntL d) < p.nodes.length := (List.getElem?_eq_some_iff.1 hg).1
  have e : (i + 1 + (Pat.cntL d : Int)).toNat = i.toNat + (1 + Pat.cntL d) := by omega
  have := nodeAt_get (p := p) (i := i + 1 + Pat.cntL d) (by omega) (by omega)
  rw [e, hg] at this
  exact ⟨(Option.some.inj this).symm, by omega⟩
theorem node_end {p : Pat} {i : Int} (h0 : 0 ≤ i) (h1 : i < p.cnt) : i + (p.nodeAt i).cnt ≤ p.cnt := by
  obtain ⟨rest, hr⟩ := drop_node p _ _ (nodeAt_get h0 h1)
  have hl := Pat.nodes_len p
  have hl2 := Pat.nodes_len (p.nodeAt i)
  have := congrArg List.length hr
  rw [List.length_drop, List.length_append] at this
  omega
theorem dep_arg {x y : Pat} (h : y ∈ x.args) : y.dep < x.dep := by
  obtain ⟨o, a, t, v, s, n, c⟩ := x
  have : ∀ (l : List Pat) (d : Nat), d ≤ Pat.depL d l ∧ ∀ e ∈ l, e.dep ≤ Pat.depL d l := by
    intro l
    induction l with
    | nil => intro d; simp [Pat.depL]
    | cons x r ih =>
      intro d
      have := ih (max d x.dep)
      rw [Pat.depL]
      refine ⟨by omega, fun e he => ?_⟩
      rcases List.mem_cons.1 he with rfl | he
      · omega
      · exact this.2 e he
  have := (this a 0).2 y h
  rw [Pat.dep]; omega
theorem cnt_args (x : Pat) : x.cnt = 1 + Pat.cntL x.args := by obtain ⟨o, a, t, v, s, n, c⟩ := x; rw [Pat.cnt]; rfl
theorem node_out (p : Pat) {i : Int} (h : i < 0 ∨ p.cnt ≤ i) : p.nodeAt i = Pat0 ∧ p.nodeEr i = 6 := by
  have hl := Pat.nodes_len p
  unfold Pat.nodeAt Pat.nodeEr
  rw [if_neg (by omega), if_neg (by omega)]; exact ⟨rfl, rfl⟩
theorem Pat.dep_pos (p : Pat) : 1 ≤ p.dep := by cases p; simp [Pat.dep]
set_option maxHeartbeats 8000000 in
theorem P_lawUnfolds (p : Pat) (hs : p.Sm) : PCall EE 5 [p.enc] (bool true) := by
  have q1 := P_ref09_Few p hs
  have q2 := P_awake
  have q4 := P_pattern_Size p hs
  have hfc := @few_cnt p
  have hcp := Pat.cnt_pos p
  have hdp := Pat.dep_pos p
  have hdl := Pat.dep_le p
  have qn := fun i => P_pattern_Node p i hs
  have hsn := Pat.node_sm hs
  have kc1 := Pat.closed p
  obtain ⟨n, hn⟩ : ∃ n : Int, n = p.cnt := ⟨_, rfl⟩
  obtain ⟨dp, hd⟩ : ∃ n : Int, n = p.dep := ⟨_, rfl⟩
  have qe1 := qn n
  have qe2 := qn (-1)
  obtain ⟨e1, e2⟩ := node_out p (i := n) (by omega)
  obtain ⟨e3, e4⟩ := node_out p (i := -1) (by omega)
  rw [e1, e2, Pat0.enc_eq] at qe1
  rw [e3, e4, Pat0.enc_eq] at qe2
  rw [← hn, ← hd] at q4
  have hfew : p.few = true → n ≤ 150 := fun h => by have := hfc h; omega
  generalize hfw : p.few = fw at *
  obtain ⟨pO, pA, pT, pV, pS, pN, pCo, pCa, pCv, pCf, pCk, pXk, pXn, pXt, hx⟩ := Pat.form p
  rw [hx] at q1 q4 qe1 qe2 kc1 ⊢
  have hpA : (AV.isl 14 pA).closed = true := by have := kc1; simp [AV.closed, AV.closedL] at this ⊢; exact this.1
  have hpCa : (AV.isl 8 pCa).closed = true := by have := kc1; simp [AV.closed, AV.closedL] at this ⊢; exact this.2
  refine words fun iLt iLe iEq iNe iAdd iSub iMul iQuo iRem iShr iNeg iCvt iMax iMin bNot bEq bNe bAnd bOr sEq sNe sLen sCat sCut sAt lenA lenN iOf natOf atA atN cutA partA dropA catA setA repA putA idxN addN subN minN lenCut rowA hX e_iLt e_iLe e_iEq e_iNe e_iAdd e_iSub e_iMul e_iQuo e_iRem e_iShr e_iNeg e_iCvt e_iMax e_iMin e_bNot e_bEq e_bNe e_bAnd e_bOr e_sEq e_sNe e_sLen e_sCat e_sCut e_sAt e_lenA e_lenN e_iOf e_natOf e_atA e_atN e_cutA e_partA e_dropA e_catA e_setA e_repA e_putA e_idxN e_addN e_subN e_minN e_lenCut e_rowA ee => ?_
  refine fn_body (fn := Tryd.f5) (n := 134) (ac := Trydc5) (rvs := [.t 2]) rfl (by decide) Trydp5 rfl rfl rfl ?_
  cases fw with
  | false =>
    refine goA 60 ?_
    refine on_pcall (args := [AV.agg [int pO, AV.isl 14 pA, int pT, int pV, int pS, int pN, int pCo, AV.isl 8 pCa, int pCv, int pCf, int pCk, int pXk, int pXn, str pXt]]) rfl rfl rfl q1 (by simp [AV.closedL, closed_v, closed_agg, closed_fn, closed_iptr, kc1]) ?_
    refine goA 0 ?_
    refine on_cond rfl (fun c1 => ?_) (fun c1 => ?_)
    ·
      simp [ee] at c1
      refine goA 60 ?_
      refine on_pcall (args := []) rfl rfl rfl q2 rfl ?_
      refine goA 60 ?_
      refine fn_ret rfl rfl (.val ?_)
      rfl
    ·
      simp [ee] at c1
  | true =>
  have hfew := hfew rfl
  have k2 : iLt n 1 = false := by simp only [ee]; simp; omega
  have k3 : iLt 200 n = false := by simp only [ee]; simp; omega
  have k4 : iLt dp 1 = false := by simp only [ee]; simp; omega
  have k5 : iLt n dp = false := by simp only [ee]; simp; omega
  refine goA 60 ?_
  refine on_pcall (args := [AV.agg [int pO, AV.isl 14 pA, int pT, int pV, int pS, int pN, int pCo, AV.isl 8 pCa, int pCv, int pCf, int pCk, int pXk, int pXn, str pXt]]) rfl rfl rfl q1 (by simp [AV.closedL, closed_v, closed_agg, closed_fn, closed_iptr, kc1]) ?_
  refine goB hX 0 (by conv => lhs; cbv; try simp only [k2, k3, k4, k5]; cbv; try simp only [k2, k3, k4, k5]; cbv; try simp only [k2, k3, k4, k5]; cbv; try simp only [k2, k3, k4, k5]; cbv) ?_
  refine on_cond rfl (fun c1 => ?_) (fun c1 => ?_)
  ·
    simp [ee] at c1
  ·
    simp [ee] at c1
    refine goA 60 ?_
    refine on_pcall (args := [AV.agg [int pO, AV.isl 14 pA, int pT, int pV, int pS, int pN, int pCo, AV.isl 8 pCa, int pCv, int pCf, int pCk, int pXk, int pXn, str pXt]]) rfl rfl rfl q4 (by simp [AV.closedL, closed_v, closed_agg, closed_fn, closed_iptr, kc1]) ?_
    refine goB hX 0 (by conv => lhs; cbv; try simp only [k2, k3, k4, k5]; cbv; try simp only [k2, k3, k4, k5]; cbv; try simp only [k2, k3, k4, k5]; cbv; try simp only [k2, k3, k4, k5]; cbv) ?_
    refine on_cond rfl (fun c2 => ?_) (fun c2 => ?_)
    ·
      simp [ee] at c2
    ·
      simp [ee] at c2
      refine goA 60 ?_
      refine on_loopP (ι := Int) (fun p => ([(5, int p), (4, int dp), (3, int n), (1, .ptr 0 0)], [.cells [int pO, .isl 14 pA, int pT, int pV, int pS, int pN, int pCo, .isl 8 pCa, int pCv, int pCf, int pCk, int pXk, int pXn, str pXt]])) (fun p => 0 ≤ p ∧ p ≤ n) (fun p => (n - p).toNat) 0 ⟨by omega, by omega⟩ ?_ ?_
      · exact (ent_sub [.to 0] [some 0] ⟨⟨by simp, rfl⟩, trivial⟩ ⟨osrc_cells (b := 0) rfl rfl rfl ⟨.refl _, .cl hpA, .refl _, .refl _, .refl _, .refl _, .refl _, .cl hpCa, .refl _, .refl _, .refl _, .refl _, .refl _, .refl _, trivial⟩, trivial⟩ ⟨.refl _, .refl _, .refl _, .refl _, trivial⟩)
      rintro i ⟨g0, g1⟩
      dsimp only at g0 g1 ⊢
      by_cases hin : i = n
      · subst hin
        have j1 : iLt i i = false := by simp only [ee]; simp
        refine goB hX 0 (by conv => lhs; cbv; try simp only [j1]; cbv; try simp only [j1]; cbv; try simp only [j1]; cbv; try simp only [j1]; cbv) ?_
        refine goA 60 ?_
        refine loopP_exit ?_
        refine goA 60 ?_
        refine on_pcall (args := [AV.agg [int pO, AV.isl 14 pA, int pT, int pV, int pS, int pN, int pCo, AV.isl 8 pCa, int pCv, int pCf, int pCk, int pXk, int pXn, str pXt], int i]) rfl rfl rfl qe1 (by simp [AV.closedL, closed_v, closed_agg, closed_fn, closed_iptr, kc1, hpA, hpCa]) ?_
        refine goA 60 ?_
        refine on_pcall (args := [AV.agg [int pO, AV.isl 14 pA, int pT, int pV, int pS, int pN, int pCo, AV.isl 8 pCa, int pCv, int pCf, int pCk, int pXk, int pXn, str pXt], int (-1)]) rfl rfl rfl qe2 (by simp [AV.closedL, closed_v, closed_agg, closed_fn, closed_iptr, kc1, hpA, hpCa]) ?_
        refine goA 60 ?_
        refine on_pcall (args := []) rfl rfl rfl q2 rfl ?_
        refine goA 60 ?_
        refine fn_ret rfl rfl (.val ?_)
        exact congrArg Value.bool (by simp only [ee]; rfl)
      have j1 : iLt i n = true := by simp only [ee]; simp; omega
      have hq := qn i
      rw [hx] at hq
      rw [(nodeAt_mem (p := p) g0 (by omega)).2] at hq
      have hch := fun d r y => child_at (p := p) (i := i) g0 (by omega) (d := d) (r := r) (y := y)
      have hend := node_end (p := p) (i := i) g0 (by omega)
      have hdq := (cnt_node p _ (nodeAt_mem (p := p) g0 (by omega)).1).2.1
      have hqs := hsn i
      have hsz := P_pattern_Size _ hqs
      have hda := fun y => dep_arg (x := p.nodeAt i) (y := y)
      have hca := cnt_args (p.nodeAt i)
      generalize p.nodeAt i = q at *
      have kc2 := Pat.closed q
      have kcL := Pat.closedL q.args
      obtain ⟨qc, hqc⟩ : ∃ z : Int, z = q.cnt := ⟨_, rfl⟩
      obtain ⟨qd, hqd⟩ : ∃ z : Int, z = q.dep := ⟨_, rfl⟩
      rw [← hqc, ← hqd] at hsz
      have hqe : q.enc = q.enc := rfl
      obtain ⟨o, a, ty, v, s, nn, c⟩ := q
      obtain ⟨co, ca, cv, cf, ck, cx⟩ := c
      dsimp only [Pat.args] at hch hda hca kcL
      rw [Pat.enc_mk] at hq hsz kc2
      have hca0 := Ex.closedI ca
      have hel : (mapE Pat.enc a).length = a.length := mapE_len ..
      generalize hes : mapE Pat.enc a = es at *
      generalize mapE Ex.enc ca = ec at *
      have hcI : (AV.isl 14 es).closed = true := by simpa [AV.closed] using kcL
      refine goB hX 0 (by conv => lhs; cbv; try simp only [j1]; cbv; try simp only [j1]; cbv; try simp only [j1]; cbv; try simp only [j1]; cbv) ?_
      refine goA 60 ?_
      refine on_pcall (args := [AV.agg [int pO, AV.isl 14 pA, int pT, int pV, int pS, int pN, int pCo, AV.isl 8 pCa, int pCv, int pCf, int pCk, int pXk, int pXn, str pXt], int i]) rfl rfl rfl hq (by simp [AV.closedL, closed_v, closed_agg, closed_fn, closed_iptr, kc1, kc2, hpA, hpCa, hcI, hca0]) ?_
      refine goB hX 0 (by conv => lhs; cbv; try simp only [j1]; cbv; try simp only [j1]; cbv; try simp only [j1]; cbv; try simp only [j1]; cbv) ?_
      refine on_cond rfl (fun c1 => ?_) (fun c1 => ?_)
      ·
        simp [ee] at c1
      ·
        simp [ee] at c1
        refine goA 60 ?_
        refine on_loopP (ι := Int × Int × List Pat × List Pat) (fun p => ([(9, int p.1), (8, int p.2.1), (6, .ptr 1 0), (5, int i), (4, int dp), (3, int n), (1, .ptr 0 0)], [.cells [int pO, .isl 14 pA, int pT, int pV, int pS, int pN, int pCo, .isl 8 pCa, int pCv, int pCf, int pCk, int pXk, int pXn, str pXt], .cells [int o, .isl 14 es, int ty, int v, int s, int nn, int co, .isl 8 ec, int cv, int cf, int ck, int cx.kind, int cx.num, str cx.text]])) (fun p => a = p.2.2.1 ++ p.2.2.2 ∧ p.1 = p.2.2.1.length ∧ p.2.1 = i + 1 + Pat.cntL p.2.2.1) (fun p => p.2.2.2.length) (0, iAdd .i64 i 1, [], a) ⟨rfl, rfl, by simp [Pat.cntL]; exact add_w e_iAdd (by omega) (by omega)⟩ ?_ ?_
        · exact (ent_sub [.to 0, .to 1] [some 0, some 1] ⟨⟨by simp, rfl⟩, ⟨by simp, rfl⟩, trivial⟩ ⟨osrc_cells (b := 0) rfl rfl rfl ⟨.refl _, .cl hpA, .refl _, .refl _, .refl _, .refl _, .refl _, .cl hpCa, .refl _, .refl _, .refl _, .refl _, .refl _, .refl _, trivial⟩, osrc_cells (b := 1) rfl rfl rfl ⟨.refl _, .cl hcI, .refl _, .refl _, .refl _, .refl _, .refl _, .cl hca0, .refl _, .refl _, .refl _, .refl _, .refl _, .refl _, trivial⟩, trivial⟩ ⟨.refl _, .refl _, .refl _, .refl _, .refl _, .refl _, .refl _, trivial⟩)
        rintro ⟨k, at_, d, r⟩ ⟨g2, g3, g4⟩
        dsimp only at g2 g3 g4 ⊢
        have hlr := congrArg List.length g2
        rw [List.length_append] at hlr
        cases r with
        | nil =>
          have j2 : iLt k (lenA es) = false := by simp only [ee]; simp at hlr ⊢; omega
          have hat : at_ = i + qc := by rw [g4, hqc, hca, g2]; simp; omega
          have j3 : iAdd .i64 i qc = at_ := by rw [hat]; exact add_w e_iAdd (by omega) (by omega)
          have j4 : iLt n at_ = false := by simp only [ee]; simp; omega
          have j5 : iNe at_ at_ = false := by simp only [ee]; simp
          have jl := add_w e_iAdd (a := i) (b := 1) (by omega) (by omega)
          refine goB hX 0 (by conv => lhs; cbv; try simp only [j2, j3, j4, j5]; cbv; try simp only [j2, j3, j4, j5]; cbv; try simp only [j2, j3, j4, j5]; cbv; try simp only [j2, j3, j4, j5]; cbv) ?_
          refine goA 60 ?_
          refine loopP_exit ?_
          refine goA 60 ?_
          refine on_pcall (args := [AV.agg [int o, AV.isl 14 es, int ty, int v, int s, int nn, int co, AV.isl 8 ec, int cv, int cf, int ck, int cx.kind, int cx.num, str cx.text]]) rfl rfl rfl hsz (by simp [AV.closedL, closed_v, closed_agg, closed_fn, closed_iptr, kc1, kc2, hpA, hpCa, hcI, hca0]) ?_
          refine goB hX 0 (by conv => lhs; cbv; try simp only [j2, j3, j4, j5]; cbv; try simp only [j2, j3, j4, j5]; cbv; try simp only [j2, j3, j4, j5]; cbv; try simp only [j2, j3, j4, j5]; cbv) ?_
          refine on_cond rfl (fun c1 => ?_) (fun c1 => ?_)
          ·
            simp [ee] at c1
          ·
            simp [ee] at c1
            refine goA 60 ?_
            refine loopP_next (iAdd .i64 i 1) (by rw [jl]; omega) (by rw [jl]; omega) (ent_sub [.to 0, .gone] [some 0] ⟨⟨by simp, rfl⟩, trivial, trivial⟩ ⟨osrc_cells (b := 0) rfl rfl rfl ⟨.refl _, .cl hpA, .refl _, .refl _, .refl _, .refl _, .refl _, .cl hpCa, .refl _, .refl _, .refl _, .refl _, .refl _, .refl _, trivial⟩, trivial⟩ ⟨.refl _, .refl _, .refl _, .refl _, trivial⟩)
        | cons y r =>
          simp only [List.length_cons] at hlr
          have j2 : iLt k (lenA es) = true := by simp only [ee]; simp; omega
          obtain ⟨hy, hylt⟩ := hch d r y g2
          have hqy := qn at_
          rw [hx, (nodeAt_mem (p := p) (by omega) (by omega)).2, g4, hy, ← g4] at hqy
          have hys := hsn at_
          rw [g4, hy] at hys
          have hsm := P_pattern_Same y y hys
          rw [eqB_t rfl] at hsm
          have hsy := P_pattern_Size y hys
          have hdy := hda y (by rw [g2]; simp)
          have hyc := Pat.closed y
          have hye := node_end (p := p) (i := at_) (by omega) (by omega)
          rw [g4, hy] at hye
          have hcy := Pat.cnt_pos y
          have hat := el_at e_atA hes g2 g3
          obtain ⟨yc, hyc1⟩ : ∃ z : Int, z = y.cnt := ⟨_, rfl⟩
          obtain ⟨yd, hyd1⟩ : ∃ z : Int, z = y.dep := ⟨_, rfl⟩
          rw [← hyc1, ← hyd1] at hsy
          have jn : iAdd .i64 at_ yc = i + 1 + Pat.cntL (d ++ [y]) := by
            rw [add_w e_iAdd (by omega) (by omega), Pat.cntL_append]; simp [Pat.cntL]; omega
          have jk : iAdd .i64 k 1 = ((d ++ [y]).length : Int) := by rw [List.length_append]; exact inc_w e_iAdd g3 (by have := Pat.cntL_len d; omega)
          have j6 : iLt yc 1 = false := by simp only [ee]; simp; omega
          have j7 : iLe dp yd = false := by simp only [ee]; simp; omega
          obtain ⟨yO, yA, yT, yV, yS, yN, yCo, yCa, yCv, yCf, yCk, yXk, yXn, yXt, hyx⟩ := Pat.form y
          rw [hyx] at hqy hsm hsy hyc hat
          have j8 : iNe 0 0 = false := by simp only [ee]; simp
          refine goB hX 0 (by conv => lhs; cbv; try simp only [j2, hat, j6, j7, j8]; cbv; try simp only [j2, hat, j6, j7, j8]; cbv; try simp only [j2, hat, j6, j7, j8]; cbv; try simp only [j2, hat, j6, j7, j8]; cbv) ?_
          refine goA 60 ?_
          refine on_pcall (args := [AV.agg [int pO, AV.isl 14 pA, int pT, int pV, int pS, int pN, int pCo, AV.isl 8 pCa, int pCv, int pCf, int pCk, int pXk, int pXn, str pXt], int at_]) rfl rfl rfl hqy (by simp [AV.closedL, closed_v, closed_agg, closed_fn, closed_iptr, kc1, kc2, hpA, hpCa, hcI, hca0, hyc]) ?_
          refine goA 60 ?_
          refine tr_drawB rfl (by conv => lhs; cbv) rfl ?_
          refine tgA ?_
          refine tgB hX (by conv => lhs; cbv; try simp only [j2, hat, j6, j7, j8]; cbv; try simp only [j2, hat, j6, j7, j8]; cbv; try simp only [j2, hat, j6, j7, j8]; cbv; try simp only [j2, hat, j6, j7, j8]; cbv) ?_
          refine tr_ung rfl ?_
          refine tgA ?_
          refine tr_ung rfl ?_
          refine tgA ?_
          refine tr_ung rfl ?_
          refine tgA ?_
          refine tr_ung rfl ?_
          refine tgA ?_
          refine tr_ung rfl ?_
          refine tgA ?_
          refine tr_ung rfl ?_
          refine tgB hX (by conv => lhs; cbv; try simp only [j2, hat, j6, j7, j8]; cbv; try simp only [j2, hat, j6, j7, j8]; cbv; try simp only [j2, hat, j6, j7, j8]; cbv; try simp only [j2, hat, j6, j7, j8]; cbv) ?_
          refine tr_ung rfl ?_
          refine tr_pcall (args := [AV.agg [int yO, AV.isl 14 yA, int yT, int yV, int yS, int yN, int yCo, AV.isl 8 yCa, int yCv, int yCf, int yCk, int yXk, int yXn, str yXt], AV.agg [int yO, AV.isl 14 yA, int yT, int yV, int yS, int yN, int yCo, AV.isl 8 yCa, int yCv, int yCf, int yCk, int yXk, int yXn, str yXt]]) rfl rfl rfl hsm (by simp [AV.closedL, closed_v, closed_agg, closed_fn, closed_iptr, kc1, kc2, hpA, hpCa, hcI, hca0, hyc]) ?_
          refine tr_ung rfl ?_
          refine tgA ?_
          refine tr_nil ⟨rfl, ?_, ?_⟩
          · simp only [LooksL, lookAll, List.append, List.cons_append, List.nil_append, List.append_nil]; and_intros <;> first | trivial | (intro hp; first | rfl | exact absurd (show false = true from hp) Bool.false_ne_true)
          refine goB hX 0 (by conv => lhs; cbv; try simp only [j2, hat, j6, j7, j8]; cbv; try simp only [j2, hat, j6, j7, j8]; cbv; try simp only [j2, hat, j6, j7, j8]; cbv; try simp only [j2, hat, j6, j7, j8]; cbv) ?_
          refine on_cond rfl (fun c1 => ?_) (fun c1 => ?_)
          ·
            simp [ee] at c1
          ·
            simp [ee] at c1
            refine goA 60 ?_
            refine on_pcall (args := [AV.agg [int yO, AV.isl 14 yA, int yT, int yV, int yS, int yN, int yCo, AV.isl 8 yCa, int yCv, int yCf, int yCk, int yXk, int yXn, str yXt]]) rfl rfl rfl hsy (by simp [AV.closedL, closed_v, closed_agg, closed_fn, closed_iptr, kc1, kc2, hpA, hpCa, hcI, hca0, hyc]) ?_
            refine goB hX 0 (by conv => lhs; cbv; try simp only [j2, hat, j6, j7, j8]; cbv; try simp only [j2, hat, j6, j7, j8]; cbv; try simp only [j2, hat, j6, j7, j8]; cbv; try simp only [j2, hat, j6, j7, j8]; cbv) ?_
            refine on_cond rfl (fun c2 => ?_) (fun c2 => ?_)
            ·
              simp [ee] at c2
            ·
              simp [ee] at c2
              refine goA 60 ?_
              refine loopP_next (iAdd .i64 k 1, iAdd .i64 at_ yc, d ++ [y], r) ⟨by simp [g2], jk, jn⟩ (by simp) (ent_sub [.to 0, .to 1, .gone] [some 0, some 1] ⟨⟨by simp, rfl⟩, ⟨by simp, rfl⟩, trivial, trivial⟩ ⟨osrc_cells (b := 0) rfl rfl rfl ⟨.refl _, .cl hpA, .refl _, .refl _, .refl _, .refl _, .refl _, .cl hpCa, .refl _, .refl _, .refl _, .refl _, .refl _, .refl _, trivial⟩, osrc_cells (b := 1) rfl rfl rfl ⟨.refl _, .cl hcI, .refl _, .refl _, .refl _, .refl _, .refl _, .cl hca0, .refl _, .refl _, .refl _, .refl _, .refl _, .refl _, trivial⟩, trivial⟩ ⟨.refl _, .refl _, .refl _, .refl _, .refl _, .refl _, .refl _, trivial⟩)
end Go.Am
end
