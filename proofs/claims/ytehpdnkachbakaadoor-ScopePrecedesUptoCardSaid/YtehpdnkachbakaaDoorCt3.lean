/- Contracts of the program's functions, for every argument that meets the conditions that each theorem names. -/
import Derived.Test.YtehpdnkachbakaaDoorAm6
import Derived.Test.YtehpdnkachbakaaDoorCt2
section
set_option maxHeartbeats 16000000
set_option maxRecDepth 100000
namespace Go.Am
open Go.Proofs
theorem Pat.some_cells (p : Pat) : ∃ cs, p.enc = .agg cs := by obtain ⟨o, es, t, v, s, n, co, ec, cv, cf, ck, xk, xn, xt, h⟩ := Pat.form p; exact ⟨_, h⟩
noncomputable def Pat.wholeE (p : Pat) : Int := if p.chkR ≠ 0 then p.chkR else firstE (fun q => if 8 ≤ q.op then 1 else 0) p.nodes
theorem P_whole (p : Pat) (hs : p.Sm) : PCall EE 40 [p.enc] (int p.wholeE) := by
 have h1 := P_CheckRest p hs
 have hcl := Pat.closed p
 obtain ⟨R, hR⟩ : ∃ R, R = p.wholeE := ⟨_, rfl⟩
 rw [← hR]
 unfold Pat.wholeE at hR
 obtain ⟨pcs, hpe⟩ := Pat.some_cells p
 have hpre := P_preorder p hpe
 obtain ⟨pO, pA, pT, pV, pS, pN, pCo, pCa, pCv, pCf, pCk, pXk, pXn, pXt, hx⟩ := Pat.form p
 rw [hx] at h1 hcl hpe ⊢
 injection hpe with hpe
 subst hpe
 have hip : (AV.fn 61 [.iptr [int pO, .isl 14 pA, int pT, int pV, int pS, int pN, int pCo, .isl 8 pCa, int pCv, int pCf, int pCk, int pXk, int pXn, str pXt]]).closed = true := by simp only [closed_fn, AV.closedL, closed_iptr, Bool.and_true]; exact hcl
 generalize p.chkR = rn at *
 refine wordsN ?_; unhygienic intros
 refine fn_body (fn := Tryd.f40) (n := 16) (ac := Trydc40) (rvs := [.cell 2 1 false]) rfl (by decide) Trydp40 rfl rfl rfl ?_
 by_cases g1 : rn = 0
 rotate_left
 · have k1 : iNe rn 0 = true := by simp only [ee]; simpa using g1
   rw [if_pos g1] at hR
   refine goA 60 ?_
   refine oPA h1 ?_
   refine goB hX 0 (by conv => lhs; cbv; try simp only [k1]; cbv; try simp only [k1]; cbv; try simp only [k1]; cbv; try simp only [k1]; cbv) ?_
   refine goA 60 ?_
   refine fn_ret rfl rfl (.val ?_)
   exact congrArg (Value.int .i64) hR.symm
 have k1 : iNe rn 0 = false := by simp only [ee]; simpa using g1
 rw [if_neg (by simpa using g1)] at hR
 refine goA 60 ?_
 refine oPA h1 ?_
 refine goB hX 0 (by conv => lhs; cbv; try simp only [k1]; cbv; try simp only [k1]; cbv; try simp only [k1]; cbv; try simp only [k1]; cbv) ?_
 refine goA 60 ?_
 refine oPA hpre ?_
 refine goA 60 ?_
 refine on_ent (F' := [(11, .fn 61 [.iptr [int pO, .isl 14 pA, int pT, int pV, int pS, int pN, int pCo, .isl 8 pCa, int pCv, int pCf, int pCk, int pXk, int pXn, str pXt]]), (2, .ptr 0 0)]) (H' := [.cells [int 0], .dead, .dead, .dead, .dead, .dead, .dead]) ?_ ?_
 · exact (ent_sub [.gone, .to 0] [some 1, none, none, none, none, none, none] ⟨trivial, ⟨by simp, rfl⟩, trivial⟩ ⟨osrc_cells (b := 1) rfl rfl rfl ⟨.refl _, trivial⟩, .dead, .dead, .dead, .dead, .dead, .dead, trivial⟩ ⟨.cl hip, .refl _, trivial⟩)
 refine on_preorder (fun _ => .cells [int 0]) (fun _ => .dead) (fun _ => .dead) (fun _ => .dead) (fun _ => .dead) (fun _ => .dead) (fun _ => .dead) (fun _ => .dead) (fun _ => .dead) (fun d => ∀ q ∈ d, (if 8 ≤ q.op then 1 else 0 : Int) = 0) p hs hx rfl rfl ⟨.cl hip, .ptr (by decide), trivial⟩ (fun q hq => by cases hq) ?_ (fun _ => .cells ⟨.cl rfl, trivial⟩) (fun _ => .dead) (fun _ => .dead) (fun _ => .dead) (fun _ => .dead) (fun _ => .dead) (fun _ => .dead) (fun _ => .dead) (fun _ => .dead) (fun hall => ?_) (fun d q r hd hok => ?_)
 · exact (hent_sub [.to 0, .gone, .gone, .gone, .gone, .gone, .gone, .to 7] [some 0, some 1, some 2, some 3, some 4, some 5, some 6, some 7, none, none] rfl ⟨rfl, rfl, rfl, rfl, rfl, rfl, rfl, rfl, trivial⟩ (by simp) (by simp) ⟨⟨by simp, rfl⟩, trivial, trivial, trivial, trivial, trivial, trivial, ⟨by simp, rfl⟩, trivial⟩ ⟨osrc_cells (b := 0) rfl rfl rfl ⟨.refl _, trivial⟩, .dead, .dead, .dead, .dead, .dead, .dead, .some 7 _ _ rfl rfl rfl (.loop _ _ _ _ _ _ _ _ ⟨.cl hip, .refl _, trivial⟩), .dead, .dead, trivial⟩)
 · have hR : R = 0 := by rw [hR]; exact firstE_ok hall
   refine goA 60 ?_
   refine fn_ret rfl rfl (.val ?_)
   exact congrArg (Value.int .i64) hR.symm
 · have hqc := Pat.closed q
   have hfe := fun h => firstE_at (F := fun q : Pat => (if 8 ≤ q.op then 1 else 0 : Int)) (r := r) hok (q := q) h
   rw [← hd] at hfe
   have hok2 : (if 8 ≤ q.op then 1 else 0 : Int) = 0 → ∀ q' ∈ d ++ [q], (if 8 ≤ q'.op then 1 else 0 : Int) = 0 := fun h q' hq' => by
    rcases List.mem_append.1 hq' with h' | h'
    · exact hok q' h'
    · simp at h'; rw [h']; exact h
   obtain ⟨qO, qA, qT, qV, qS, qN, qCo, qCa, qCv, qCf, qCk, qXk, qXn, qXt, hx2, hx2c, hqO, hqA, hqT, hqV, hqS, hqN⟩ := Pat.form2 q
   rw [hx2] at hqc ⊢
   rw [← hqO] at hfe hok2
   by_cases hqe : 8 ≤ qO
   · have k3 : iLe 8 qO = true := by simp only [ee]; simpa using hqe
     have hR : R = 1 := by rw [hR, hfe (by simp [hqe]), if_pos hqe]
     refine goA 60 ?_
     refine rnd_assign rfl ?_
     refine goB hX 0 (by conv => lhs; cbv; try simp only [k3]; cbv; try simp only [k3]; cbv; try simp only [k3]; cbv; try simp only [k3]; cbv) ?_
     refine goA 60 ?_
     refine rnd_stop (by simp) rfl ?_
     refine goA 60 ?_
     refine fn_ret rfl rfl (.val ?_)
     exact congrArg (Value.int .i64) hR.symm
   · have k3 : iLe 8 qO = false := by simp only [ee]; simp; omega
     refine goA 60 ?_
     refine rnd_assign rfl ?_
     refine goB hX 0 (by conv => lhs; cbv; try simp only [k3]; cbv; try simp only [k3]; cbv; try simp only [k3]; cbv; try simp only [k3]; cbv) ?_
     refine goA 60 ?_
     exact rnd_next rfl (hok2 (if_neg hqe)) (hent_sub [.to 0, .gone, .gone, .gone, .gone, .gone, .gone, .to 7, .gone, .gone, .gone] [some 0, some 1, some 2, some 3, some 4, some 5, some 6, some 7, none, none] rfl ⟨rfl, rfl, rfl, rfl, rfl, rfl, rfl, rfl, trivial⟩ (by simp) (by simp) ⟨⟨by simp, rfl⟩, trivial, trivial, trivial, trivial, trivial, trivial, ⟨by simp, rfl⟩, trivial, trivial, trivial, trivial⟩ ⟨osrc_cells (b := 0) rfl rfl rfl ⟨.refl _, trivial⟩, .dead, .dead, .dead, .dead, .dead, .dead, .some 7 _ _ rfl rfl rfl (.loop _ _ _ _ _ _ _ _ ⟨.cl hip, .refl _, trivial⟩), .dead, .dead, trivial⟩)
def cstep (s : Int × Int × Bool) (q : Pat) : Int × Int × Bool :=
 ((if typedF q.op then s.1 + 1 else s.1), (if scopeF q.op then s.2.1 + 1 else s.2.1), (s.2.2 && (!typedF q.op || q.var == s.1)) && (!scopeF q.op || q.scope == s.2.1))
def cfold (l : List Pat) : Int × Int × Bool := l.foldl cstep (0, 0, true)
theorem cfold_snoc (d : List Pat) (q : Pat) : cfold (d ++ [q]) = cstep (cfold d) q := by simp [cfold]
theorem cfold_bd (d : List Pat) : 0 ≤ (cfold d).1 ∧ (cfold d).1 ≤ d.length ∧ 0 ≤ (cfold d).2.1 ∧ (cfold d).2.1 ≤ d.length := by
 have : ∀ (l : List Pat) (s : Int × Int × Bool), s.1 ≤ (l.foldl cstep s).1 ∧ (l.foldl cstep s).1 ≤ s.1 + l.length ∧ s.2.1 ≤ (l.foldl cstep s).2.1 ∧ (l.foldl cstep s).2.1 ≤ s.2.1 + l.length := by
  intro l
  induction l with
  | nil => intro s; simp
  | cons q r ih =>
   intro s
   have := ih (cstep s q)
   simp only [List.foldl_cons, List.length_cons]
   simp only [cstep] at this ⊢
   split at this <;> split at this <;> simp_all <;> omega
 have := this d (0, 0, true)
 simpa [cfold] using this
theorem P_count (p : Pat) (hs : p.Sm) (hop : ∀ q ∈ p.nodes, 0 ≤ q.op ∧ q.op < 11) : PCall EE 41 [p.enc] (.tup [int (cfold p.nodes).1, int (cfold p.nodes).2.1, bool (cfold p.nodes).2.2]) := by
 have hcl := Pat.closed p
 have hcnt := Pat.nodes_len p
 have hs1 := hs.1
 obtain ⟨pcs, hpe⟩ := Pat.some_cells p
 have hpre := P_preorder p hpe
 obtain ⟨pO, pA, pT, pV, pS, pN, pCo, pCa, pCv, pCf, pCk, pXk, pXn, pXt, hx⟩ := Pat.form p
 rw [hx] at hcl hpe ⊢
 injection hpe with hpe
 subst hpe
 have hip : (AV.fn 61 [.iptr [int pO, .isl 14 pA, int pT, int pV, int pS, int pN, int pCo, .isl 8 pCa, int pCv, int pCf, int pCk, int pXk, int pXn, str pXt]]).closed = true := by simp only [closed_fn, AV.closedL, closed_iptr, Bool.and_true]; exact hcl
 refine wordsN ?_; unhygienic intros
 refine fn_body (fn := Tryd.f41) (n := 42) (ac := Trydc41) (rvs := [.t 2, .t 3, .t 4]) rfl (by decide) Trydp41 rfl rfl rfl ?_
 refine goA 60 ?_
 refine oPA hpre ?_
 refine goA 60 ?_
 refine on_ent (F' := [(11, .fn 61 [.iptr [int pO, .isl 14 pA, int pT, int pV, int pS, int pN, int pCo, .isl 8 pCa, int pCv, int pCf, int pCk, int pXk, int pXn, str pXt]]), (5, .ptr 0 0), (6, .ptr 1 0), (7, .ptr 2 0)]) (H' := [.cells [int 0], .cells [int 0], .cells [bool true], .dead, .dead, .dead, .dead]) ?_ ?_
 · exact (ent_sub [.gone, .to 0, .to 1, .to 2] [some 1, some 2, some 3, none, none, none, none] ⟨trivial, ⟨by simp, rfl⟩, ⟨by simp, rfl⟩, ⟨by simp, rfl⟩, trivial⟩ ⟨osrc_cells (b := 1) rfl rfl rfl ⟨.refl _, trivial⟩, osrc_cells (b := 2) rfl rfl rfl ⟨.refl _, trivial⟩, osrc_cells (b := 3) rfl rfl rfl ⟨.refl _, trivial⟩, .dead, .dead, .dead, .dead, trivial⟩ ⟨.cl hip, .refl _, .refl _, .refl _, trivial⟩)
 refine on_preorder (fun d => .cells [int (cfold d).1]) (fun d => .cells [int (cfold d).2.1]) (fun d => .cells [bool (cfold d).2.2]) (fun _ => .dead) (fun _ => .dead) (fun _ => .dead) (fun _ => .dead) (fun _ => .dead) (fun _ => .dead) (fun _ => True) p hs hx rfl rfl ⟨.cl hip, .ptr (by decide), .ptr (by decide), .ptr (by decide), trivial⟩ trivial ?_ (fun _ => .cells ⟨.cl rfl, trivial⟩) (fun _ => .cells ⟨.cl rfl, trivial⟩) (fun _ => .cells ⟨.cl rfl, trivial⟩) (fun _ => .dead) (fun _ => .dead) (fun _ => .dead) (fun _ => .dead) (fun _ => .dead) (fun _ => .dead) (fun _ => ?_) (fun d q r hd _ => ?_)
 · exact (hent_sub [.to 0, .to 1, .to 2, .gone, .gone, .gone, .gone, .to 7] [some 0, some 1, some 2, some 3, some 4, some 5, some 6, some 7, none, none] rfl ⟨rfl, rfl, rfl, rfl, rfl, rfl, rfl, rfl, trivial⟩ (by simp) (by simp) ⟨⟨by simp, rfl⟩, ⟨by simp, rfl⟩, ⟨by simp, rfl⟩, trivial, trivial, trivial, trivial, ⟨by simp, rfl⟩, trivial⟩ ⟨osrc_cells (b := 0) rfl rfl rfl ⟨.refl _, trivial⟩, osrc_cells (b := 1) rfl rfl rfl ⟨.refl _, trivial⟩, osrc_cells (b := 2) rfl rfl rfl ⟨.refl _, trivial⟩, .dead, .dead, .dead, .dead, .some 7 _ _ rfl rfl rfl (.loop _ _ _ _ _ _ _ _ ⟨.cl hip, .refl _, .refl _, .refl _, trivial⟩), .dead, .dead, trivial⟩)
 · generalize (cfold p.nodes).1 = c1 at *
   generalize (cfold p.nodes).2.1 = c2 at *
   generalize (cfold p.nodes).2.2 = c3 at *
   refine goA 60 ?_
   refine fn_ret rfl rfl ?_
   exact ⟨[.gone, .gone, .gone, .gone, .gone, .gone, .gone, .gone, .gone, .gone], ⟨trivial, trivial, trivial, trivial, trivial, trivial, trivial, trivial, trivial, trivial, trivial⟩, .refl _⟩
 · have hqc := Pat.closed q
   have hqo := hop q (by rw [hd]; simp)
   have hrow := shape_row hqo.1 hqo.2
   have hb := cfold_bd d
   have hdl : d.length ≤ 1048576 := by have := congrArg List.length hd; simp at this; omega
   have e1 : (cfold (d ++ [q])).1 = _ := congrArg (fun s => s.1) (cfold_snoc d q)
   have e2 : (cfold (d ++ [q])).2.1 = _ := congrArg (fun s => s.2.1) (cfold_snoc d q)
   have e3 : (cfold (d ++ [q])).2.2 = _ := congrArg (fun s => s.2.2) (cfold_snoc d q)
   dsimp only [cstep] at e1 e2 e3
   have hrw : rowA (Classical.choice tabBox_ne).g q.op 6 = [int (leastF q.op), int (mostF q.op), bool (typedF q.op), bool (condF q.op), bool (scopeF q.op), bool (spanF q.op)] := by rw [e_rowA]; exact hrow
   generalize leastF q.op = lo at *
   generalize mostF q.op = mo at *
   generalize hty : typedF q.op = ty at *
   generalize condF q.op = cd at *
   generalize hsc : scopeF q.op = sc at *
   generalize spanF q.op = sp at *
   clear hrow
   obtain ⟨qO, qA, qT, qV, qS, qN, qCo, qCa, qCv, qCf, qCk, qXk, qXn, qXt, hx2, hx2c, hqO, hqA, hqT, hqV, hqS, hqN⟩ := Pat.form2 q
   rw [hx2] at hqc ⊢
   simp only [← hqO, ← hqV, ← hqS] at *
   generalize (cfold d).1 = c1 at *
   generalize (cfold d).2.1 = c2 at *
   generalize (cfold d).2.2 = c3 at *
   generalize (cfold (d ++ [q])).1 = f1 at *
   generalize (cfold (d ++ [q])).2.1 = f2 at *
   generalize (cfold (d ++ [q])).2.2 = f3 at *
   clear hx2 hx2c hqO hqA hqT hqV hqS hqN hty hsc
   have a1 : iAdd .i64 c1 1 = c1 + 1 := add_w e_iAdd (by omega) (by omega)
   have a2 : iAdd .i64 c2 1 = c2 + 1 := add_w e_iAdd (by omega) (by omega)
   cases ty <;> cases sc
   · have e1 : c1 = f1 := by simpa using e1.symm
     have e2 : c2 = f2 := by simpa using e2.symm
     have e3 : c3 = f3 := by simpa using e3.symm
     refine goA 60 ?_
     refine rnd_assign rfl ?_
     refine goB hX 0 (by conv => lhs; cbv; try simp only [hrw]; cbv; try simp only [hrw]; cbv; try simp only [hrw]; cbv; try simp only [hrw]; cbv) ?_
     refine goA 60 ?_
     exact rnd_next rfl trivial (hent_sub [.to 0, .to 1, .to 2, .gone, .gone, .gone, .gone, .to 7, .gone, .gone, .gone, .gone] [some 0, some 1, some 2, some 3, some 4, some 5, some 6, some 7, none, none] rfl ⟨rfl, rfl, rfl, rfl, rfl, rfl, rfl, rfl, trivial⟩ (by simp) (by simp) ⟨⟨by simp, rfl⟩, ⟨by simp, rfl⟩, ⟨by simp, rfl⟩, trivial, trivial, trivial, trivial, ⟨by simp, rfl⟩, trivial, trivial, trivial, trivial, trivial⟩ ⟨osrc_cells (b := 0) rfl rfl rfl ⟨.of (congrArg int (by assumption)), trivial⟩, osrc_cells (b := 1) rfl rfl rfl ⟨.of (congrArg int (by assumption)), trivial⟩, osrc_cells (b := 2) rfl rfl rfl ⟨.of (congrArg bool (by assumption)), trivial⟩, .dead, .dead, .dead, .dead, .some 7 _ _ rfl rfl rfl (.loop _ _ _ _ _ _ _ _ ⟨.cl hip, .refl _, .refl _, .refl _, trivial⟩), .dead, .dead, trivial⟩)
   · have e1 : c1 = f1 := by simpa using e1.symm
     have e2 : iAdd .i64 c2 1 = f2 := by rw [a2]; simpa using e2.symm
     have e3 : bAnd c3 (iEq qS c2) = f3 := by simp only [ee]; simpa using e3.symm
     refine goA 60 ?_
     refine rnd_assign rfl ?_
     refine goB hX 0 (by conv => lhs; cbv; try simp only [hrw]; cbv; try simp only [hrw]; cbv; try simp only [hrw]; cbv; try simp only [hrw]; cbv) ?_
     refine goA 60 ?_
     exact rnd_next rfl trivial (hent_sub [.to 0, .to 1, .to 2, .gone, .gone, .gone, .gone, .to 7, .gone, .gone, .gone, .gone] [some 0, some 1, some 2, some 3, some 4, some 5, some 6, some 7, none, none] rfl ⟨rfl, rfl, rfl, rfl, rfl, rfl, rfl, rfl, trivial⟩ (by simp) (by simp) ⟨⟨by simp, rfl⟩, ⟨by simp, rfl⟩, ⟨by simp, rfl⟩, trivial, trivial, trivial, trivial, ⟨by simp, rfl⟩, trivial, trivial, trivial, trivial, trivial⟩ ⟨osrc_cells (b := 0) rfl rfl rfl ⟨.of (congrArg int (by assumption)), trivial⟩, osrc_cells (b := 1) rfl rfl rfl ⟨.of (congrArg int (by assumption)), trivial⟩, osrc_cells (b := 2) rfl rfl rfl ⟨.of (congrArg bool (by assumption)), trivial⟩, .dead, .dead, .dead, .dead, .some 7 _ _ rfl rfl rfl (.loop _ _ _ _ _ _ _ _ ⟨.cl hip, .refl _, .refl _, .refl _, trivial⟩), .dead, .dead, trivial⟩)
   · have e1 : iAdd .i64 c1 1 = f1 := by rw [a1]; simpa using e1.symm
     have e2 : c2 = f2 := by simpa using e2.symm
     have e3 : bAnd c3 (iEq qV c1) = f3 := by simp only [ee]; simpa using e3.symm
     refine goA 60 ?_
     refine rnd_assign rfl ?_
     refine goB hX 0 (by conv => lhs; cbv; try simp only [hrw]; cbv; try simp only [hrw]; cbv; try simp only [hrw]; cbv; try simp only [hrw]; cbv) ?_
     refine goA 60 ?_
     exact rnd_next rfl trivial (hent_sub [.to 0, .to 1, .to 2, .gone, .gone, .gone, .gone, .to 7, .gone, .gone, .gone, .gone] [some 0, some 1, some 2, some 3, some 4, some 5, some 6, some 7, none, none] rfl ⟨rfl, rfl, rfl, rfl, rfl, rfl, rfl, rfl, trivial⟩ (by simp) (by simp) ⟨⟨by simp, rfl⟩, ⟨by simp, rfl⟩, ⟨by simp, rfl⟩, trivial, trivial, trivial, trivial, ⟨by simp, rfl⟩, trivial, trivial, trivial, trivial, trivial⟩ ⟨osrc_cells (b := 0) rfl rfl rfl ⟨.of (congrArg int (by assumption)), trivial⟩, osrc_cells (b := 1) rfl rfl rfl ⟨.of (congrArg int (by assumption)), trivial⟩, osrc_cells (b := 2) rfl rfl rfl ⟨.of (congrArg bool (by assumption)), trivial⟩, .dead, .dead, .dead, .dead, .some 7 _ _ rfl rfl rfl (.loop _ _ _ _ _ _ _ _ ⟨.cl hip, .refl _, .refl _, .refl _, trivial⟩), .dead, .dead, trivial⟩)
   · have e1 : iAdd .i64 c1 1 = f1 := by rw [a1]; simpa using e1.symm
     have e2 : iAdd .i64 c2 1 = f2 := by rw [a2]; simpa using e2.symm
     have e3 : bAnd (bAnd c3 (iEq qV c1)) (iEq qS c2) = f3 := by simp only [ee]; simpa using e3.symm
     refine goA 60 ?_
     refine rnd_assign rfl ?_
     refine goB hX 0 (by conv => lhs; cbv; try simp only [hrw]; cbv; try simp only [hrw]; cbv; try simp only [hrw]; cbv; try simp only [hrw]; cbv) ?_
     refine goA 60 ?_
     exact rnd_next rfl trivial (hent_sub [.to 0, .to 1, .to 2, .gone, .gone, .gone, .gone, .to 7, .gone, .gone, .gone, .gone] [some 0, some 1, some 2, some 3, some 4, some 5, some 6, some 7, none, none] rfl ⟨rfl, rfl, rfl, rfl, rfl, rfl, rfl, rfl, trivial⟩ (by simp) (by simp) ⟨⟨by simp, rfl⟩, ⟨by simp, rfl⟩, ⟨by simp, rfl⟩, trivial, trivial, trivial, trivial, ⟨by simp, rfl⟩, trivial, trivial, trivial, trivial, trivial⟩ ⟨osrc_cells (b := 0) rfl rfl rfl ⟨.of (congrArg int (by assumption)), trivial⟩, osrc_cells (b := 1) rfl rfl rfl ⟨.of (congrArg int (by assumption)), trivial⟩, osrc_cells (b := 2) rfl rfl rfl ⟨.of (congrArg bool (by assumption)), trivial⟩, .dead, .dead, .dead, .dead, .some 7 _ _ rfl rfl rfl (.loop _ _ _ _ _ _ _ _ ⟨.cl hip, .refl _, .refl _, .refl _, trivial⟩), .dead, .dead, trivial⟩)
def bndF (l : List Pat) : List Int := (l.filter fun q => decide (q.op = 0)).map Pat.var
def Pat.bound (p : Pat) : List Int := Lib.compact (sortI (bndF p.nodes))
theorem bndF_snoc (d : List Pat) (q : Pat) : bndF (d ++ [q]) = if q.op = 0 then bndF d ++ [q.var] else bndF d := by
 unfold bndF
 rw [List.filter_append, List.map_append]
 by_cases h : q.op = 0 <;> simp [h]
theorem bndF_len (d : List Pat) : (bndF d).length ≤ d.length := by
 unfold bndF; rw [List.length_map]; exact List.length_filter_le ..
theorem sort_len (l : List Int) : (sortI l).length = l.length := by simp [sortI, List.length_mergeSort]
theorem enters_slices_Sort___int_int_ : Enters EE.P 44 := enters_of (fn := Tryd.f44) (n := 11) (ac := Trydc44) rfl (by decide) Trydp44
theorem enters_slices_Compact___int_int_ : Enters EE.P 45 := enters_of (fn := Tryd.f45) (n := 61) (ac := Trydc45) rfl (by decide) Trydp45
theorem C_Sort (l : List Int) (hl : l.length < 4611686018427387904) : ACall EE 44 [.sl 0 1 0 l.length] [.arr 1 (mapE int l)] fun v H' => v = .tup [] ∧ H' = [.arr 1 (mapE int (sortI l))] := by
 have := sort_acall (E := EE) Tryd.lays189 l hl
 rw [mapE_eq, mapE_eq]
 exact this
theorem C_Compact (l : List Int) (hl : l.length < 4611686018427387904) : ACall EE 45 [.sl 0 1 0 l.length] [.arr 1 (mapE int l)] fun v H' => v = .sl 0 1 0 (Lib.compact l).length ∧ H' = [.arr 1 (mapE int (compI l))] := by
 have := comp_acall (E := EE) Tryd.laysNm220 l (by omega)
 rw [mapE_eq, mapE_eq]
 exact this
theorem P_Bound (p : Pat) (hs : p.Sm) : PCall EE 16 [p.enc] (.isl 1 (mapE int p.bound)) := by
 have hcl := Pat.closed p
 have hcnt := Pat.nodes_len p
 have hs1 := hs.1
 obtain ⟨R, hR⟩ : ∃ R, R = p.bound := ⟨_, rfl⟩
 rw [← hR]
 unfold Pat.bound at hR
 obtain ⟨pcs, hpe⟩ := Pat.some_cells p
 have hpre := P_preorder p hpe
 obtain ⟨pO, pA, pT, pV, pS, pN, pCo, pCa, pCv, pCf, pCk, pXk, pXn, pXt, hx⟩ := Pat.form p
 rw [hx] at hcl hpe ⊢
 injection hpe with hpe
 subst hpe
 have hip : (AV.fn 61 [.iptr [int pO, .isl 14 pA, int pT, int pV, int pS, int pN, int pCo, .isl 8 pCa, int pCv, int pCf, int pCk, int pXk, int pXn, str pXt]]).closed = true := by simp only [closed_fn, AV.closedL, closed_iptr, Bool.and_true]; exact hcl
 have hpA : (AV.isl 14 pA).closed = true := by have := hcl; simp [AV.closed, AV.closedL] at this ⊢; exact this.1
 have hpCa : (AV.isl 8 pCa).closed = true := by have := hcl; simp [AV.closed, AV.closedL] at this ⊢; exact this.2
 have hnil : mapE int [] = [] := by rw [mapE_eq]; rfl
 refine wordsN ?_; unhygienic intros
 refine fn_body (fn := Tryd.f16) (n := 20) (ac := Trydc16) (rvs := [.t 2]) rfl (by decide) Trydp16 rfl rfl rfl ?_
 refine goA 60 ?_
 refine oPA hpre ?_
 refine goA 60 ?_
 refine on_ent (F' := [(6, .fn 61 [.iptr [int pO, .isl 14 pA, int pT, int pV, int pS, int pN, int pCo, .isl 8 pCa, int pCv, int pCf, int pCk, int pXk, int pXn, str pXt]]), (3, .ptr 0 0)]) (H' := [.cells [.val (.slice none 0 0)], .dead, .dead, .dead, .dead, .dead, .dead]) ?_ ?_
 · exact (ent_sub [.gone, .to 0] [some 1, none, none, none, none, none, none] ⟨trivial, ⟨by simp, rfl⟩, trivial⟩ ⟨osrc_cells (b := 1) rfl rfl rfl ⟨.refl _, trivial⟩, .dead, .dead, .dead, .dead, .dead, .dead, trivial⟩ ⟨.cl hip, .refl _, trivial⟩)
 refine on_preorder (fun d => .cells [.sl 8 1 0 (bndF d).length]) (fun _ => .dead) (fun _ => .dead) (fun _ => .dead) (fun _ => .dead) (fun _ => .dead) (fun _ => .dead) (fun d => .arr 1 (mapE int (bndF d))) (fun _ => .dead) (fun _ => True) p hs hx rfl rfl ⟨.cl hip, .ptr (by decide), trivial⟩ trivial ?_ (fun _ => .cells ⟨.sl (by decide), trivial⟩) (fun _ => .dead) (fun _ => .dead) (fun _ => .dead) (fun _ => .dead) (fun _ => .dead) (fun _ => .dead) (fun _ => .arr (closedL_int _)) (fun _ => .dead) (fun _ => ?_) (fun d q r hd _ => ?_)
 · have e : bndF [] = [] := rfl
   rw [e, hnil]
   exact (hent_sub [.to 0, .gone, .gone, .gone, .gone, .gone, .gone, .to 7] [some 0, some 1, some 2, some 3, some 4, some 5, some 6, some 7, none, none] rfl ⟨rfl, rfl, rfl, rfl, rfl, rfl, rfl, rfl, trivial⟩ (by simp) (by simp) ⟨⟨by simp, rfl⟩, trivial, trivial, trivial, trivial, trivial, trivial, ⟨by simp, rfl⟩, trivial⟩ ⟨osrc_cells (b := 0) rfl rfl rfl ⟨.nilS _ _ _ (by simp), trivial⟩, .dead, .dead, .dead, .dead, .dead, .dead, .some 7 _ _ rfl rfl rfl (.loop _ _ _ _ _ _ _ _ ⟨.cl hip, .refl _, trivial⟩), .none _ rfl, .dead, trivial⟩)
 · have hbl := bndF_len p.nodes
   have hR2 : mapE int R = (mapE int (compI (sortI (bndF p.nodes)))).take R.length := by
    rw [hR, compI, mapE_eq, mapE_eq, List.map_append, List.take_left' (by simp)]
   have hle : R.length ≤ (mapE int (compI (sortI (bndF p.nodes)))).length := by
    rw [hR, mapE_len, compI_len]; exact compact_le _
   have hss := C_Sort (bndF p.nodes) (by omega)
   have hcc := C_Compact (sortI (bndF p.nodes)) (by rw [sort_len]; omega)
   rw [← hR, sort_len] at hcc
   have c1 := closedL_int (bndF p.nodes)
   have c2 := closedL_int (sortI (bndF p.nodes))
   have c3 := closedL_int (compI (sortI (bndF p.nodes)))
   generalize R.length = rl at *
   generalize (bndF p.nodes).length = m1 at *
   generalize mapE int (compI (sortI (bndF p.nodes))) = w3 at *
   generalize mapE int (sortI (bndF p.nodes)) = w2 at *
   generalize mapE int (bndF p.nodes) = w1 at *
   generalize mapE int R = rs at *
   refine goA 60 ?_
   refine on_fcall [8] rfl rfl enters_slices_Sort___int_int_ hss (by decide) (by simp) (by show _ = [AObj.arr 1 (AV.subL _ w1)]; rw [subL_closed _ c1]) rfl ?_
   rintro v0 H' ⟨rfl, rfl⟩ -
   refine on_entO (F' := [(3, .ptr 0 0)]) (H' := [.cells [.sl 1 1 0 m1], .arr 1 w2]) ?_ ?_
   · exact (ent_sub [.to 0, .gone, .gone, .gone, .gone, .gone, .gone, .gone, .to 1, .gone] [some 0, some 8] ⟨⟨by simp, rfl⟩, trivial, trivial, trivial, trivial, trivial, trivial, trivial, ⟨by simp, rfl⟩, trivial, trivial⟩ ⟨osrc_cells (b := 0) rfl rfl rfl ⟨.refl _, trivial⟩, osrc_arr (b := 8) rfl rfl rfl (Go.Am.subL_closed _ c2) c2, trivial⟩ ⟨.refl _, trivial⟩)
   refine goA 60 ?_
   refine on_fcall [1] rfl rfl enters_slices_Compact___int_int_ hcc (by decide) (by simp) (by show _ = [AObj.arr 1 (AV.subL _ w2)]; rw [subL_closed _ c2]) rfl ?_
   rintro v0 H' ⟨rfl, rfl⟩ -
   refine on_entO (F' := [(19, .sl 0 1 0 rl)]) (H' := [.arr 1 w3]) ?_ ?_
   · exact (ent_sub [.gone, .to 0] [some 1] ⟨trivial, ⟨by simp, rfl⟩, trivial⟩ ⟨osrc_arr (b := 1) rfl rfl rfl (Go.Am.subL_closed _ c3) c3, trivial⟩ ⟨.refl _, trivial⟩)
   refine goA 60 ?_
   refine fn_ret rfl rfl ?_
   exact ⟨[.isl 1 w3], ⟨⟨w3, rfl, (subL_closed _ c3).symm⟩, trivial⟩, .of (sub_part rfl (by simpa using hle) (by simpa using hR2.symm))⟩
 · have hqc := Pat.closed q
   have hdl : d.length < 1048576 := by have := congrArg List.length hd; simp at this; omega
   have hbl := bndF_len d
   have e1 := bndF_snoc d q
   generalize bndF (d ++ [q]) = b2 at *
   generalize bndF d = b1 at *
   obtain ⟨qO, qA, qT, qV, qS, qN, qCo, qCa, qCv, qCf, qCk, qXk, qXn, qXt, hx2, hx2c, hqO, hqA, hqT, hqV, hqS, hqN⟩ := Pat.form2 q
   rw [hx2] at hqc ⊢
   simp only [← hqO, ← hqV, ← hqS] at *
   clear hx2 hx2c hqO hqA hqT hqV hqS hqN
   by_cases hq0 : qO = 0
   · have k1 : iEq qO 0 = true := by simp only [ee]; simpa using hq0
     rw [if_pos hq0] at e1
     have e2 : mapE int b2 = mapE int b1 ++ [int qV] := by rw [e1, mapE_eq, mapE_eq, List.map_append]; rfl
     have e3 : b2.length = b1.length + 1 := by rw [e1]; simp
     have hml : (mapE int b1).length = b1.length := mapE_len ..
     have hcb := closedL_int b1
     generalize b2.length = m2 at *
     generalize b1.length = m1 at *
     generalize mapE int b2 = w2 at *
     generalize mapE int b1 = w1 at *
     have e4 : w2 = catA (dropA w1 0) (partA [int qV] 0 1) := by simp only [ee]; simpa using e2
     have e5 : m2 = addN m1 (lenN (partA [int qV] 0 1)) := by simp only [ee]; simpa using e3
     have hcb2 : AV.closedL (catA (dropA w1 0) (partA [int qV] 0 1)) = true := by simp only [ee]; exact closedL_append (by simpa using hcb) rfl
     clear e2 e3 e1
     subst e4 e5
     refine goA 60 ?_
     refine rnd_assign rfl ?_
     refine goB hX 0 (by conv => lhs; cbv; try simp only [k1]; cbv; try simp only [k1]; cbv; try simp only [k1]; cbv; try simp only [k1]; cbv) ?_
     refine goA 60 ?_
     exact rnd_next rfl trivial (hent_sub [.to 0, .gone, .gone, .gone, .gone, .gone, .gone, .to 7, .gone, .gone, .gone, .gone, .to 8] [some 0, some 1, some 2, some 3, some 4, some 5, some 6, some 7, some 12, none] rfl ⟨rfl, rfl, rfl, rfl, rfl, rfl, rfl, rfl, trivial⟩ (by simp) (by simp) ⟨⟨by simp, rfl⟩, trivial, trivial, trivial, trivial, trivial, trivial, ⟨by simp, rfl⟩, trivial, trivial, trivial, trivial, ⟨by simp, rfl⟩, trivial⟩ ⟨osrc_cells (b := 0) rfl rfl rfl ⟨.refl _, trivial⟩, .dead, .dead, .dead, .dead, .dead, .dead, .some 7 _ _ rfl rfl rfl (.loop _ _ _ _ _ _ _ _ ⟨.cl hip, .refl _, trivial⟩), osrc_arr (b := 12) rfl rfl rfl rfl hcb2, .dead, trivial⟩)
   · have k1 : iEq qO 0 = false := by simp only [ee]; simpa using hq0
     rw [if_neg hq0] at e1
     rw [e1]
     have hcb := closedL_int b1
     generalize b1.length = m1 at *
     generalize mapE int b1 = w1 at *
     refine goA 60 ?_
     refine rnd_assign rfl ?_
     refine goB hX 0 (by conv => lhs; cbv; try simp only [k1]; cbv; try simp only [k1]; cbv; try simp only [k1]; cbv; try simp only [k1]; cbv) ?_
     refine goA 60 ?_
     exact rnd_next rfl trivial (hent_sub [.to 0, .gone, .gone, .gone, .gone, .gone, .gone, .to 7, .to 8, .gone, .gone] [some 0, some 1, some 2, some 3, some 4, some 5, some 6, some 7, some 8, none] rfl ⟨rfl, rfl, rfl, rfl, rfl, rfl, rfl, rfl, trivial⟩ (by simp) (by simp) ⟨⟨by simp, rfl⟩, trivial, trivial, trivial, trivial, trivial, trivial, ⟨by simp, rfl⟩, ⟨by simp, rfl⟩, trivial, trivial, trivial⟩ ⟨osrc_cells (b := 0) rfl rfl rfl ⟨.refl _, trivial⟩, .dead, .dead, .dead, .dead, .dead, .dead, .some 7 _ _ rfl rfl rfl (.loop _ _ _ _ _ _ _ _ ⟨.cl hip, .refl _, trivial⟩), osrc_arr (b := 8) rfl rfl rfl rfl hcb, .dead, trivial⟩)
mutual
def Ex.tot (lim : Nat) : Ex → Nat
 | .mk _ a _ _ _ _ => Ex.totL lim 1 a
def Ex.totL (lim : Nat) : Nat → List Ex → Nat
 | n, [] => n
 | n, e :: r => if n ≤ lim then Ex.totL lim (n + e.tot lim) r else n
end
theorem Ex.totL_le {lim : Nat} {l : List Ex} (h : ∀ e ∈ l, e.tot lim ≤ e.cnt) : ∀ n, Ex.totL lim n l ≤ n + Ex.cntL l := by
 induction l with
 | nil => intro n; simp [Ex.totL]
 | cons e r ih =>
  intro n
  have h1 := h e (by simp)
  have h2 := ih (fun e he => h e (by simp [he])) (n + e.tot lim)
  simp only [Ex.totL, Ex.cntL]; split <;> omega
theorem Ex.tot_le (lim : Nat) : ∀ e : Ex, e.tot lim ≤ e.cnt := Ex.ind fun o a v f k x h => by
 have := Ex.totL_le h 1
 simp only [Ex.tot, Ex.cnt]; omega
theorem Ex.totL_eq {lim : Nat} {l : List Ex} (h : ∀ e ∈ l, e.cnt ≤ lim → e.tot lim = e.cnt) : ∀ n, n + Ex.cntL l ≤ lim → Ex.totL lim n l = n + Ex.cntL l := by
 induction l with
 | nil => intro n _; simp [Ex.totL, Ex.cntL]
 | cons e r ih =>
  intro n hn
  simp only [Ex.cntL] at hn ⊢
  have h1 := h e (by simp) (by omega)
  rw [Ex.totL, if_pos (by omega), ih (fun e he => h e (by simp [he])) _ (by omega)]; omega
theorem Ex.tot_eq {lim : Nat} : ∀ e : Ex, e.cnt ≤ lim → e.tot lim = e.cnt := Ex.ind fun o a v f k x h hl => by
 simp only [Ex.tot, Ex.cnt] at hl ⊢
 exact Ex.totL_eq h 1 hl
theorem Ex.totL_gt {lim : Nat} {l : List Ex} (h : ∀ e ∈ l, lim < e.cnt → lim < e.tot lim) : ∀ n, lim < n + Ex.cntL l → lim < Ex.totL lim n l := by
 induction l with
 | nil => intro n hn; simpa [Ex.totL, Ex.cntL] using hn
 | cons e r ih =>
  intro n hn
  simp only [Ex.cntL] at hn
  rw [Ex.totL]
  split
  · refine ih (fun e he => h e (by simp [he])) _ ?_
    by_cases hc : e.cnt ≤ lim
    · rw [Ex.tot_eq e hc]; omega
    · have := h e (by simp) (by omega); omega
  · omega
theorem Ex.tot_gt {lim : Nat} : ∀ e : Ex, lim < e.cnt → lim < e.tot lim := Ex.ind fun o a v f k x h hl => by
 simp only [Ex.tot, Ex.cnt] at hl ⊢
 exact Ex.totL_gt h 1 hl
theorem Ex.tot_iff (e : Ex) (lim : Nat) : e.tot lim ≤ lim ↔ e.cnt ≤ lim := by
 by_cases h : e.cnt ≤ lim
 · rw [Ex.tot_eq e h]
 · have := Ex.tot_gt (lim := lim) e (by omega); omega
theorem P_ref08_Count (lim : Nat) (hlim : lim ≤ 1099511627776) : ∀ p : Ex, p.Sm → PCall EE 29 [p.enc, int lim] (int (p.tot lim)) := by
 generalize hli : (lim : Int) = li
 refine Ex.ind ?_
 intro o a v f k x ih hs
 obtain ⟨xk, xn, xt⟩ := x
 have hlen := hs.len
 have hih : ∀ q ∈ a, PCall EE 29 [q.enc, int li] (int (q.tot lim)) := fun q hq => ih q hq (hs.arg hq)
 have hcl := Ex.closedI a
 have hcnt : Ex.cntL a ≤ 1048576 := by unfold Ex.Sm at hs; simp only [Ex.cnt] at hs; omega
 have hde := fun q : Ex => Ex.tot_le lim q
 simp only [Ex.tot]
 obtain ⟨R, hR⟩ : ∃ R, R = Ex.totL lim 1 a := ⟨_, rfl⟩
 rw [← hR, Ex.enc_mk]
 refine wordsN ?_; unhygienic intros
 generalize hes : mapE Ex.enc a = es at *
 have hel : es.length = a.length := by rw [← hes, mapE_len]
 refine fn_body (fn := Tryd.f29) (n := 29) (ac := Trydc29) (rvs := [.t 4]) rfl (by decide) Trydp29 rfl rfl rfl ?_
 refine goA 60 ?_
 refine on_loopP (ι := List Ex × List Ex × Int × Int) (fun p => ([(5, int p.2.2.2), (6, int p.2.2.1), (1, int li), (2, .ptr 0 0)], [.cells [int o, .isl 8 es, int v, int f, int k, int xk, int xn, str xt]])) (fun p => a = p.1 ++ p.2.1 ∧ p.2.2.1 = p.1.length ∧ p.2.2.2 ≤ 1 + Ex.cntL p.1 ∧ 0 ≤ p.2.2.2 ∧ R = Ex.totL lim p.2.2.2.toNat p.2.1) (fun p => p.2.1.length) ([], a, 0, 1) ⟨rfl, rfl, by simp [Ex.cntL], by simp, hR⟩ ?_ ?_
 · exact (ent_sub [.to 0] [some 0] ⟨⟨by simp, rfl⟩, trivial⟩ ⟨osrc_cells (b := 0) rfl rfl rfl ⟨.refl _, .cl hcl, .refl _, .refl _, .refl _, .refl _, .refl _, .refl _, trivial⟩, trivial⟩ ⟨.refl _, .refl _, .refl _, .refl _, trivial⟩)
 rintro ⟨d, r, i, nn⟩ ⟨g1, gi, gn, gp, gt⟩
 dsimp only at g1 gi gn gp gt ⊢
 have hnt : (nn.toNat : Int) = nn := Int.toNat_of_nonneg gp
 cases r with
 | nil =>
  have L1 := len_split g1
  try simp only [List.length] at L1
  have hc : iLt i (lenA es) = false := lt_f e_iLt e_lenA (by omega)
  rw [Ex.totL] at gt
  have hv : nn = (R : Int) := by omega
  have hb : ∀ b, bAnd false b = false := by simp [ee]
  refine goB hX 0 (by conv => lhs; cbv; try simp only [hc, hb]; cbv; try simp only [hc, hb]; cbv; try simp only [hc, hb]; cbv; try simp only [hc, hb]; cbv) ?_
  refine goA 60 ?_
  refine loopP_exit ?_
  refine goA 60 ?_
  refine fn_ret rfl rfl (.val ?_)
  exact congrArg (Value.int .i64) hv
 | cons q r =>
  have L1 := len_split g1
  try simp only [List.length] at L1
  have hc : iLt i (lenA es) = true := lt_t e_iLt e_lenA (by omega)
  have hat := el_at e_atA hes g1 gi
  have hq := hih q (by rw [g1]; simp)
  have hqc := Ex.closed q
  have hqd := hde q
  rw [g1, Ex.cntL_append, Ex.cntL] at hcnt
  obtain ⟨qO, qA, qV, qF, qK, qXk, qXn, qXt, hx⟩ := Ex.form q
  rw [hx] at hq hat hqc
  have hb : ∀ b, bAnd true b = b := by simp [ee]
  rw [Ex.totL] at gt
  by_cases hle : nn ≤ li
  · have h2 : iLe nn li = true := by simp [ee]; omega
    rw [if_pos (by omega)] at gt
    generalize hqn : (q.tot lim : Int) = qn at hq
    have hn2 : iAdd .i64 nn qn = nn + qn := add_w e_iAdd (by omega) (by omega)
    have hi2 : iAdd .i64 i 1 = ((d ++ [q]).length : Int) := by rw [List.length_append]; exact inc_w e_iAdd gi (by omega)
    have hn4 : iAdd .i64 nn qn ≤ 1 + Ex.cntL (d ++ [q]) ∧ 0 ≤ iAdd .i64 nn qn := by rw [Ex.cntL_append, Ex.cntL, Ex.cntL, hn2]; omega
    have hn3 : (iAdd .i64 nn qn).toNat = nn.toNat + q.tot lim := by omega
    refine goB hX 0 (by conv => lhs; cbv; try simp only [hc, hat, hb, h2]; cbv; try simp only [hc, hat, hb, h2]; cbv; try simp only [hc, hat, hb, h2]; cbv; try simp only [hc, hat, hb, h2]; cbv) ?_
    refine goB hX 1 (by conv => lhs; cbv; try simp only [hc, hat, hb, h2]; cbv; try simp only [hc, hat, hb, h2]; cbv; try simp only [hc, hat, hb, h2]; cbv; try simp only [hc, hat, hb, h2]; cbv) ?_
    refine oPA hq ?_
    refine goA 60 ?_
    refine loopP_next (d ++ [q], r, iAdd .i64 i 1, iAdd .i64 nn qn) ⟨by simp [g1], hi2, hn4.1, hn4.2, hn3 ▸ gt⟩ (by simp) (ent_sub [.to 0] [some 0] ⟨⟨by simp, rfl⟩, trivial⟩ ⟨osrc_cells (b := 0) rfl rfl rfl ⟨.refl _, .cl hcl, .refl _, .refl _, .refl _, .refl _, .refl _, .refl _, trivial⟩, trivial⟩ ⟨.refl _, .refl _, .refl _, .refl _, trivial⟩)
  · have h2 : iLe nn li = false := by simp [ee]; omega
    rw [if_neg (by omega)] at gt
    have hv : nn = (R : Int) := by omega
    refine goB hX 0 (by conv => lhs; cbv; try simp only [hc, hat, hb, h2]; cbv; try simp only [hc, hat, hb, h2]; cbv; try simp only [hc, hat, hb, h2]; cbv; try simp only [hc, hat, hb, h2]; cbv) ?_
    refine goA 60 ?_
    refine loopP_exit ?_
    refine goA 60 ?_
    refine fn_ret rfl rfl (.val ?_)
    exact congrArg (Value.int .i64) hv
theorem P_ref08_Depth : ∀ p : Ex, p.Sm → PCall EE 30 [p.enc] (int p.dep) := by
 refine Ex.ind ?_
 intro o a v f k x ih hs
 obtain ⟨xk, xn, xt⟩ := x
 have hlen := hs.len
 have hih : ∀ q ∈ a, PCall EE 30 [q.enc] (int q.dep) := fun q hq => ih q hq (hs.arg hq)
 have hcl := Ex.closedI a
 have hcnt : Ex.cntL a ≤ 1048576 := by unfold Ex.Sm at hs; simp only [Ex.cnt] at hs; omega
 have hde := fun q : Ex => Ex.dep_le q
 simp only [Ex.dep]
 obtain ⟨R, hR⟩ : ∃ R, R = Ex.depL 0 a := ⟨_, rfl⟩
 rw [← hR, Ex.enc_mk]
 refine wordsN ?_; unhygienic intros
 generalize hes : mapE Ex.enc a = es at *
 have hel : es.length = a.length := by rw [← hes, mapE_len]
 refine fn_body (fn := Tryd.f30) (n := 22) (ac := Trydc30) (rvs := [.t 2]) rfl (by decide) Trydp30 rfl rfl rfl ?_
 refine goA 60 ?_
 refine on_loopP (ι := List Ex × List Ex × Int × Int) (fun p => ([(3, int p.2.2.2), (4, int p.2.2.1), (1, .ptr 0 0)], [.cells [int o, .isl 8 es, int v, int f, int k, int xk, int xn, str xt]])) (fun p => a = p.1 ++ p.2.1 ∧ p.2.2.1 = p.1.length ∧ p.2.2.2 ≤ 1048576 ∧ 0 ≤ p.2.2.2 ∧ R = Ex.depL p.2.2.2.toNat p.2.1) (fun p => p.2.1.length) ([], a, 0, 0) ⟨rfl, rfl, by simp, by simp, hR⟩ ?_ ?_
 · exact (ent_sub [.to 0] [some 0] ⟨⟨by simp, rfl⟩, trivial⟩ ⟨osrc_cells (b := 0) rfl rfl rfl ⟨.refl _, .cl hcl, .refl _, .refl _, .refl _, .refl _, .refl _, .refl _, trivial⟩, trivial⟩ ⟨.refl _, .refl _, .refl _, trivial⟩)
 rintro ⟨d, r, i, dd⟩ ⟨g1, gi, gn, gp, gt⟩
 dsimp only at g1 gi gn gp gt ⊢
 cases r with
 | nil =>
  have L1 := len_split g1
  try simp only [List.length] at L1
  have hc : iLt i (lenA es) = false := lt_f e_iLt e_lenA (by omega)
  rw [Ex.depL] at gt
  have ha1 : iAdd .i64 dd 1 = ((R + 1 : Nat) : Int) := by rw [add_w e_iAdd (by omega) (by omega)]; omega
  refine goB hX 0 (by conv => lhs; cbv; try simp only [hc]; cbv; try simp only [hc]; cbv; try simp only [hc]; cbv; try simp only [hc]; cbv) ?_
  refine goA 60 ?_
  refine loopP_exit ?_
  refine goA 60 ?_
  refine fn_ret rfl rfl (.val ?_)
  exact congrArg (Value.int .i64) ha1
 | cons q r =>
  have L1 := len_split g1
  try simp only [List.length] at L1
  have hc : iLt i (lenA es) = true := lt_t e_iLt e_lenA (by omega)
  have hat := el_at e_atA hes g1 gi
  have hq := hih q (by rw [g1]; simp)
  have hqc := Ex.closed q
  have hqd := hde q
  rw [g1, Ex.cntL_append, Ex.cntL] at hcnt
  obtain ⟨qO, qA, qV, qF, qK, qXk, qXn, qXt, hx⟩ := Ex.form q
  rw [hx] at hq hat hqc
  rw [Ex.depL] at gt
  generalize hqn : (q.dep : Int) = qn at hq
  have hd2 : iMax dd qn = ((max dd.toNat q.dep : Nat) : Int) := by simp only [ee]; split <;> omega
  have hd3 : (iMax dd qn).toNat = max dd.toNat q.dep := by omega
  have hi2 : iAdd .i64 i 1 = ((d ++ [q]).length : Int) := by rw [List.length_append]; exact inc_w e_iAdd gi (by omega)
  refine goB hX 0 (by conv => lhs; cbv; try simp only [hc, hat]; cbv; try simp only [hc, hat]; cbv; try simp only [hc, hat]; cbv; try simp only [hc, hat]; cbv) ?_
  refine goB hX 1 (by conv => lhs; cbv; try simp only [hc, hat]; cbv; try simp only [hc, hat]; cbv; try simp only [hc, hat]; cbv; try simp only [hc, hat]; cbv) ?_
  refine oPA hq ?_
  refine goA 60 ?_
  refine loopP_next (d ++ [q], r, iAdd .i64 i 1, iMax dd qn) ⟨by simp [g1], hi2, by show iMax dd qn ≤ 1048576; omega, by show 0 ≤ iMax dd qn; omega, hd3 ▸ gt⟩ (by simp) (ent_sub [.to 0] [some 0] ⟨⟨by simp, rfl⟩, trivial⟩ ⟨osrc_cells (b := 0) rfl rfl rfl ⟨.refl _, .cl hcl, .refl _, .refl _, .refl _, .refl _, .refl _, .refl _, trivial⟩, trivial⟩ ⟨.refl _, .refl _, .refl _, trivial⟩)
theorem P_ref09_Depth : ∀ p : Pat, p.Sm → PCall EE 54 [p.enc] (int p.dep) := by
 refine Pat.ind ?_
 intro o a t v s n c ih hs
 obtain ⟨co, ca, cv, cf, ck, xk, xn, xt⟩ := c
 have hlen := hs.len
 have hih : ∀ q ∈ a, PCall EE 54 [q.enc] (int q.dep) := fun q hq => ih q hq (hs.arg hq)
 have hcl := Pat.closedI a
 have hce := Ex.closedI ca
 have hcnt : Pat.cntL a ≤ 1048576 := by have hs := hs.1; simp only [Pat.cnt] at hs; omega
 have hde := fun q : Pat => Pat.dep_le q
 simp only [Pat.dep]
 obtain ⟨R, hR⟩ : ∃ R, R = Pat.depL 0 a := ⟨_, rfl⟩
 rw [← hR, Pat.enc_mk]
 refine wordsN ?_; unhygienic intros
 generalize hes : mapE Pat.enc a = es at *
 generalize mapE Ex.enc ca = ec at *
 have hel : es.length = a.length := by rw [← hes, mapE_len]
 refine fn_body (fn := Tryd.f54) (n := 22) (ac := Trydc54) (rvs := [.t 2]) rfl (by decide) Trydp54 rfl rfl rfl ?_
 refine goA 60 ?_
 refine on_loopP (ι := List Pat × List Pat × Int × Int) (fun p => ([(3, int p.2.2.2), (4, int p.2.2.1), (1, .ptr 0 0)], [.cells [int o, .isl 14 es, int t, int v, int s, int n, int co, .isl 8 ec, int cv, int cf, int ck, int xk, int xn, str xt]])) (fun p => a = p.1 ++ p.2.1 ∧ p.2.2.1 = p.1.length ∧ p.2.2.2 ≤ 1048576 ∧ 0 ≤ p.2.2.2 ∧ R = Pat.depL p.2.2.2.toNat p.2.1) (fun p => p.2.1.length) ([], a, 0, 0) ⟨rfl, rfl, by simp, by simp, hR⟩ ?_ ?_
 · exact (ent_sub [.to 0] [some 0] ⟨⟨by simp, rfl⟩, trivial⟩ ⟨osrc_cells (b := 0) rfl rfl rfl ⟨.refl _, .cl hcl, .refl _, .refl _, .refl _, .refl _, .refl _, .cl hce, .refl _, .refl _, .refl _, .refl _, .refl _, .refl _, trivial⟩, trivial⟩ ⟨.refl _, .refl _, .refl _, trivial⟩)
 rintro ⟨d, r, i, dd⟩ ⟨g1, gi, gn, gp, gt⟩
 dsimp only at g1 gi gn gp gt ⊢
 cases r with
 | nil =>
  have L1 := len_split g1
  try simp only [List.length] at L1
  have hc : iLt i (lenA es) = false := lt_f e_iLt e_lenA (by omega)
  rw [Pat.depL] at gt
  have ha1 : iAdd .i64 dd 1 = ((R + 1 : Nat) : Int) := by rw [add_w e_iAdd (by omega) (by omega)]; omega
  refine goB hX 0 (by conv => lhs; cbv; try simp only [hc]; cbv; try simp only [hc]; cbv; try simp only [hc]; cbv; try simp only [hc]; cbv) ?_
  refine goA 60 ?_
  refine loopP_exit ?_
  refine goA 60 ?_
  refine fn_ret rfl rfl (.val ?_)
  exact congrArg (Value.int .i64) ha1
 | cons q r =>
  have L1 := len_split g1
  try simp only [List.length] at L1
  have hc : iLt i (lenA es) = true := lt_t e_iLt e_lenA (by omega)
  have hat := el_at e_atA hes g1 gi
  have hq := hih q (by rw [g1]; simp)
  have hqc := Pat.closed q
  have hqd := hde q
  rw [g1, Pat.cntL_append, Pat.cntL] at hcnt
  obtain ⟨qO, qA, qT, qV, qS, qN, qCo, qCa, qCv, qCf, qCk, qXk, qXn, qXt, hx⟩ := Pat.form q
  rw [hx] at hq hat hqc
  rw [Pat.depL] at gt
  generalize hqn : (q.dep : Int) = qn at hq
  have hd2 : iMax dd qn = ((max dd.toNat q.dep : Nat) : Int) := by simp only [ee]; split <;> omega
  have hd3 : (iMax dd qn).toNat = max dd.toNat q.dep := by omega
  have hi2 : iAdd .i64 i 1 = ((d ++ [q]).length : Int) := by rw [List.length_append]; exact inc_w e_iAdd gi (by omega)
  refine goB hX 0 (by conv => lhs; cbv; try simp only [hc, hat]; cbv; try simp only [hc, hat]; cbv; try simp only [hc, hat]; cbv; try simp only [hc, hat]; cbv) ?_
  refine goB hX 1 (by conv => lhs; cbv; try simp only [hc, hat]; cbv; try simp only [hc, hat]; cbv; try simp only [hc, hat]; cbv; try simp only [hc, hat]; cbv) ?_
  refine oPA hq ?_
  refine goA 60 ?_
  refine loopP_next (d ++ [q], r, iAdd .i64 i 1, iMax dd qn) ⟨by simp [g1], hi2, by show iMax dd qn ≤ 1048576; omega, by show 0 ≤ iMax dd qn; omega, hd3 ▸ gt⟩ (by simp) (ent_sub [.to 0] [some 0] ⟨⟨by simp, rfl⟩, trivial⟩ ⟨osrc_cells (b := 0) rfl rfl rfl ⟨.refl _, .cl hcl, .refl _, .refl _, .refl _, .refl _, .refl _, .cl hce, .refl _, .refl _, .refl _, .refl _, .refl _, .refl _, trivial⟩, trivial⟩ ⟨.refl _, .refl _, .refl _, trivial⟩)
def suitsR (k : Int) (v : Vl) : Bool := decide (v.kind = 0 ∨ k = 0 ∨ k = 4 ∨ k = 5)
theorem P_ref07_Suits (k : Int) (v : Vl) : PCall EE 75 [int k, v.enc] (bool (suitsR k v)) := by
 obtain ⟨R, hR⟩ : ∃ R, R = suitsR k v := ⟨_, rfl⟩
 rw [← hR]
 unfold suitsR at hR
 obtain ⟨xk, xn, xt⟩ := v
 dsimp only at hR
 show PCall EE _ [int k, .agg [int xk, int xn, str xt]] _
 refine wordsN ?_; unhygienic intros
 refine fn_body (fn := Tryd.f75) (n := 20) (ac := Trydc75) (rvs := [.t 4]) rfl (by decide) Trydp75 rfl rfl rfl ?_
 refine goA 60 ?_
 refine fn_ret rfl rfl (.val ?_)
 exact congrArg Value.bool (by rw [hR, Bool.eq_iff_iff]; simp only [ee]; simp [or_assoc])
theorem P_ref01_Check (v : Vl) : PCall EE 74 [v.enc] (int v.chk) := by
 obtain ⟨R, hR⟩ : ∃ R, R = v.chk := ⟨_, rfl⟩
 rw [← hR]
 have h0 : v.text = ⟨#[]⟩ ↔ v.text.toList = [] := by
  constructor
  · intro h; rw [h]; simp
  · intro h; exact bs_inj (by rw [h]; simp)
 have hz : v.text.toList = [] → (v.text.size : Int) = 0 := fun h => by rw [h0.2 h]; rfl
 unfold Vl.chk Vl.sizeE at hR
 obtain ⟨xk, xn, xt⟩ := v
 dsimp only at hR h0 hz
 simp only [ne_eq, h0] at hR
 show PCall EE _ [.agg [int xk, int xn, str xt]] _
 refine wordsN ?_; unhygienic intros
 have hsn : ∀ s : ByteArray, (s.toList == (ByteArray.mk #[]).toList) = decide (s.toList = []) := by
  intro s
  have hn : (ByteArray.mk #[]).toList = [] := by simp
  rw [hn]
  cases s.toList <;> rfl
 refine fn_body (fn := Tryd.f74) (n := 47) (ac := Trydc74) (rvs := [.t 2]) rfl (by decide) Trydp74 rfl rfl rfl ?_
 refine goA 0 ?_
 refine on_cond rfl (fun c1 => ?_) (fun c1 => ?_)
 ·
  simp [ee] at c1
  refine goA 60 ?_
  refine fn_ret rfl rfl (.val ?_)
  exact congrArg (Value.int .i64) (by rw [hR]; simp only [ee, hsn] at *; clear ee hX; grind)
 ·
  simp [ee] at c1
  refine goA 0 ?_
  refine on_cond rfl (fun c2 => ?_) (fun c2 => ?_)
  ·
   simp [ee] at c2
   refine goA 0 ?_
   refine on_cond rfl (fun c3 => ?_) (fun c3 => ?_)
   ·
    simp [ee] at c3
    refine goA 60 ?_
    refine fn_ret rfl rfl (.val ?_)
    exact congrArg (Value.int .i64) (by rw [hR]; simp only [ee, hsn] at *; clear ee hX; grind)
   ·
    simp [ee] at c3
    refine goA 0 ?_
    refine on_cond rfl (fun c4 => ?_) (fun c4 => ?_)
    ·
     simp [ee] at c4
     refine goA 60 ?_
     refine fn_ret rfl rfl (.val ?_)
     exact congrArg (Value.int .i64) (by rw [hR]; simp only [ee, hsn] at *; clear ee hX; grind)
    ·
     simp [ee] at c4
     refine goA 60 ?_
     refine fn_ret rfl rfl (.val ?_)
     exact congrArg (Value.int .i64) (by rw [hR]; simp only [ee, hsn] at *; clear ee hX; grind)
  ·
   simp [ee] at c2
   refine goA 0 ?_
   refine on_cond rfl (fun c5 => ?_) (fun c5 => ?_)
   ·
    simp [ee] at c5
    refine goA 60 ?_
    refine fn_ret rfl rfl (.val ?_)
    exact congrArg (Value.int .i64) (by rw [hR]; simp only [ee, hsn] at *; clear ee hX; grind)
   ·
    simp [ee] at c5
    refine goA 0 ?_
    refine nsB hX (by conv => lhs; cbv) ?_
    refine goA 0 ?_
    refine on_cond rfl (fun c6 => ?_) (fun c6 => ?_)
    ·
     simp [ee] at c6
     refine goA 60 ?_
     refine fn_ret rfl rfl (.val ?_)
     exact congrArg (Value.int .i64) (by rw [hR]; simp only [ee, hsn] at *; clear ee hX; grind)
    ·
     simp [ee] at c6
     refine goA 60 ?_
     refine fn_ret rfl rfl (.val ?_)
     exact congrArg (Value.int .i64) (by rw [hR]; simp only [ee, hsn] at *; clear ee hX; grind)
theorem P_ref08_uses (o : Int) : PCall EE 73 [int o] (.tup [bool (usesV o), bool (usesF o)]) := by
 obtain ⟨R, hR⟩ : ∃ R, R = usesV o := ⟨_, rfl⟩
 obtain ⟨R2, hR2⟩ : ∃ R, R = usesF o := ⟨_, rfl⟩
 rw [← hR, ← hR2]
 unfold usesV at hR
 unfold usesF at hR2
 refine wordsN ?_; unhygienic intros
 refine fn_body (fn := Tryd.f73) (n := 21) (ac := Trydc73) (rvs := [.t 2, .t 3]) rfl (by decide) Trydp73 rfl rfl rfl ?_
 refine goA 60 ?_
 refine fn_ret rfl rfl ?_
 exact Fz.none (.tup' ⟨.of (congrArg bool (by rw [hR, Bool.eq_iff_iff]; simp only [ee]; simp; omega)), .of (congrArg bool (by rw [hR2, Bool.eq_iff_iff]; simp only [ee]; simp)), trivial⟩)
def arityR (o : Int) : Int := if o < 0 ∨ 12 < o then -1 else if o < 5 then 0 else if o = 12 then 1 else 2
theorem P_ref08_arity (o : Int) : PCall EE 72 [int o] (int (arityR o)) := by
 obtain ⟨R, hR⟩ : ∃ R, R = arityR o := ⟨_, rfl⟩
 rw [← hR]
 unfold arityR at hR
 refine wordsN ?_; unhygienic intros
 refine fn_body (fn := Tryd.f72) (n := 20) (ac := Trydc72) (rvs := [.t 2]) rfl (by decide) Trydp72 rfl rfl rfl ?_
 refine goA 0 ?_
 refine on_cond rfl (fun c1 => ?_) (fun c1 => ?_)
 ·
  simp [ee] at c1
  refine goA 0 ?_
  refine on_cond rfl (fun c2 => ?_) (fun c2 => ?_)
  ·
   simp [ee] at c2
   refine goA 60 ?_
   refine fn_ret rfl rfl (.val ?_)
   exact congrArg (Value.int .i64) (by rw [hR]; (repeat' split) <;> first | rfl | omega)
  ·
   simp [ee] at c2
   refine goA 0 ?_
   refine on_cond rfl (fun c3 => ?_) (fun c3 => ?_)
   ·
    simp [ee] at c3
    refine goA 60 ?_
    refine fn_ret rfl rfl (.val ?_)
    exact congrArg (Value.int .i64) (by rw [hR]; (repeat' split) <;> first | rfl | omega)
   ·
    simp [ee] at c3
    refine goA 0 ?_
    refine on_cond rfl (fun c4 => ?_) (fun c4 => ?_)
    ·
     simp [ee] at c4
     refine goA 0 ?_
     refine on_cond rfl (fun c5 => ?_) (fun c5 => ?_)
     ·
      simp [ee] at c5
      refine goA 60 ?_
      refine fn_ret rfl rfl (.val ?_)
      exact congrArg (Value.int .i64) (by rw [hR]; (repeat' split) <;> first | rfl | omega)
     ·
      simp [ee] at c5
      refine goA 60 ?_
      refine fn_ret rfl rfl (.val ?_)
      exact congrArg (Value.int .i64) (by rw [hR]; (repeat' split) <;> first | rfl | omega)
    ·
     simp [ee] at c4
     refine goA 0 ?_
     refine on_cond rfl (fun c6 => ?_) (fun c6 => ?_)
     ·
      simp [ee] at c6
      refine goA 0 ?_
      refine on_cond rfl (fun c7 => ?_) (fun c7 => ?_)
      ·
       simp [ee] at c7
       refine goA 60 ?_
       refine fn_ret rfl rfl (.val ?_)
       exact congrArg (Value.int .i64) (by rw [hR]; (repeat' split) <;> first | rfl | omega)
      ·
       simp [ee] at c7
       refine goA 60 ?_
       refine fn_ret rfl rfl (.val ?_)
       exact congrArg (Value.int .i64) (by rw [hR]; (repeat' split) <;> first | rfl | omega)
     ·
      simp [ee] at c6
      refine goA 0 ?_
      refine on_cond rfl (fun c8 => ?_) (fun c8 => ?_)
      ·
       simp [ee] at c8
       refine goA 0 ?_
       refine on_cond rfl (fun c9 => ?_) (fun c9 => ?_)
       ·
        simp [ee] at c9
        refine goA 60 ?_
        refine fn_ret rfl rfl (.val ?_)
        exact congrArg (Value.int .i64) (by rw [hR]; (repeat' split) <;> first | rfl | omega)
       ·
        simp [ee] at c9
        refine goA 60 ?_
        refine fn_ret rfl rfl (.val ?_)
        exact congrArg (Value.int .i64) (by rw [hR]; (repeat' split) <;> first | rfl | omega)
      ·
       simp [ee] at c8
       refine goA 0 ?_
       refine on_cond rfl (fun c10 => ?_) (fun c10 => ?_)
       ·
        simp [ee] at c10
        refine goA 0 ?_
        refine on_cond rfl (fun c11 => ?_) (fun c11 => ?_)
        ·
         simp [ee] at c11
         refine goA 60 ?_
         refine fn_ret rfl rfl (.val ?_)
         exact congrArg (Value.int .i64) (by rw [hR]; (repeat' split) <;> first | rfl | omega)
        ·
         simp [ee] at c11
         refine goA 60 ?_
         refine fn_ret rfl rfl (.val ?_)
         exact congrArg (Value.int .i64) (by rw [hR]; (repeat' split) <;> first | rfl | omega)
       ·
        simp [ee] at c10
        refine goA 0 ?_
        refine on_cond rfl (fun c12 => ?_) (fun c12 => ?_)
        ·
         simp [ee] at c12
         refine goA 0 ?_
         refine on_cond rfl (fun c13 => ?_) (fun c13 => ?_)
         ·
          simp [ee] at c13
          refine goA 60 ?_
          refine fn_ret rfl rfl (.val ?_)
          exact congrArg (Value.int .i64) (by rw [hR]; (repeat' split) <;> first | rfl | omega)
         ·
          simp [ee] at c13
          refine goA 60 ?_
          refine fn_ret rfl rfl (.val ?_)
          exact congrArg (Value.int .i64) (by rw [hR]; (repeat' split) <;> first | rfl | omega)
        ·
         simp [ee] at c12
         refine goA 0 ?_
         refine on_cond rfl (fun c14 => ?_) (fun c14 => ?_)
         ·
          simp [ee] at c14
          refine goA 0 ?_
          refine on_cond rfl (fun c15 => ?_) (fun c15 => ?_)
          ·
           simp [ee] at c15
           refine goA 60 ?_
           refine fn_ret rfl rfl (.val ?_)
           exact congrArg (Value.int .i64) (by rw [hR]; (repeat' split) <;> first | rfl | omega)
          ·
           simp [ee] at c15
           refine goA 60 ?_
           refine fn_ret rfl rfl (.val ?_)
           exact congrArg (Value.int .i64) (by rw [hR]; (repeat' split) <;> first | rfl | omega)
         ·
          simp [ee] at c14
          refine goA 0 ?_
          refine on_cond rfl (fun c16 => ?_) (fun c16 => ?_)
          ·
           simp [ee] at c16
           refine goA 60 ?_
           refine fn_ret rfl rfl (.val ?_)
           exact congrArg (Value.int .i64) (by rw [hR]; (repeat' split) <;> first | rfl | omega)
          ·
           simp [ee] at c16
           refine goA 60 ?_
           refine fn_ret rfl rfl (.val ?_)
           exact congrArg (Value.int .i64) (by rw [hR]; (repeat' split) <;> first | rfl | omega)
 ·
  simp [ee] at c1
  refine goA 0 ?_
  refine on_cond rfl (fun c17 => ?_) (fun c17 => ?_)
  ·
   simp [ee] at c17
   refine goA 0 ?_
   refine on_cond rfl (fun c18 => ?_) (fun c18 => ?_)
   ·
    simp [ee] at c18
    refine goA 60 ?_
    refine fn_ret rfl rfl (.val ?_)
    exact congrArg (Value.int .i64) (by rw [hR]; (repeat' split) <;> first | rfl | omega)
   ·
    simp [ee] at c18
    refine goA 0 ?_
    refine on_cond rfl (fun c19 => ?_) (fun c19 => ?_)
    ·
     simp [ee] at c19
     refine goA 60 ?_
     refine fn_ret rfl rfl (.val ?_)
     exact congrArg (Value.int .i64) (by rw [hR]; (repeat' split) <;> first | rfl | omega)
    ·
     simp [ee] at c19
     refine goA 0 ?_
     refine on_cond rfl (fun c20 => ?_) (fun c20 => ?_)
     ·
      simp [ee] at c20
      refine goA 0 ?_
      refine on_cond rfl (fun c21 => ?_) (fun c21 => ?_)
      ·
       simp [ee] at c21
       refine goA 60 ?_
       refine fn_ret rfl rfl (.val ?_)
       exact congrArg (Value.int .i64) (by rw [hR]; (repeat' split) <;> first | rfl | omega)
      ·
       simp [ee] at c21
       refine goA 60 ?_
       refine fn_ret rfl rfl (.val ?_)
       exact congrArg (Value.int .i64) (by rw [hR]; (repeat' split) <;> first | rfl | omega)
     ·
      simp [ee] at c20
      refine goA 0 ?_
      refine on_cond rfl (fun c22 => ?_) (fun c22 => ?_)
      ·
       simp [ee] at c22
       refine goA 0 ?_
       refine on_cond rfl (fun c23 => ?_) (fun c23 => ?_)
       ·
        simp [ee] at c23
        refine goA 60 ?_
        refine fn_ret rfl rfl (.val ?_)
        exact congrArg (Value.int .i64) (by rw [hR]; (repeat' split) <;> first | rfl | omega)
       ·
        simp [ee] at c23
        refine goA 60 ?_
        refine fn_ret rfl rfl (.val ?_)
        exact congrArg (Value.int .i64) (by rw [hR]; (repeat' split) <;> first | rfl | omega)
      ·
       simp [ee] at c22
       refine goA 0 ?_
       refine on_cond rfl (fun c24 => ?_) (fun c24 => ?_)
       ·
        simp [ee] at c24
        refine goA 0 ?_
        refine on_cond rfl (fun c25 => ?_) (fun c25 => ?_)
        ·
         simp [ee] at c25
         refine goA 60 ?_
         refine fn_ret rfl rfl (.val ?_)
         exact congrArg (Value.int .i64) (by rw [hR]; (repeat' split) <;> first | rfl | omega)
        ·
         simp [ee] at c25
         refine goA 60 ?_
         refine fn_ret rfl rfl (.val ?_)
         exact congrArg (Value.int .i64) (by rw [hR]; (repeat' split) <;> first | rfl | omega)
       ·
        simp [ee] at c24
        refine goA 0 ?_
        refine on_cond rfl (fun c26 => ?_) (fun c26 => ?_)
        ·
         simp [ee] at c26
         refine goA 0 ?_
         refine on_cond rfl (fun c27 => ?_) (fun c27 => ?_)
         ·
          simp [ee] at c27
          refine goA 60 ?_
          refine fn_ret rfl rfl (.val ?_)
          exact congrArg (Value.int .i64) (by rw [hR]; (repeat' split) <;> first | rfl | omega)
         ·
          simp [ee] at c27
          refine goA 60 ?_
          refine fn_ret rfl rfl (.val ?_)
          exact congrArg (Value.int .i64) (by rw [hR]; (repeat' split) <;> first | rfl | omega)
        ·
         simp [ee] at c26
         refine goA 0 ?_
         refine on_cond rfl (fun c28 => ?_) (fun c28 => ?_)
         ·
          simp [ee] at c28
          refine goA 0 ?_
          refine on_cond rfl (fun c29 => ?_) (fun c29 => ?_)
          ·
           simp [ee] at c29
           refine goA 60 ?_
           refine fn_ret rfl rfl (.val ?_)
           exact congrArg (Value.int .i64) (by rw [hR]; (repeat' split) <;> first | rfl | omega)
          ·
           simp [ee] at c29
           refine goA 60 ?_
           refine fn_ret rfl rfl (.val ?_)
           exact congrArg (Value.int .i64) (by rw [hR]; (repeat' split) <;> first | rfl | omega)
         ·
          simp [ee] at c28
          refine goA 0 ?_
          refine on_cond rfl (fun c30 => ?_) (fun c30 => ?_)
          ·
           simp [ee] at c30
           refine goA 0 ?_
           refine on_cond rfl (fun c31 => ?_) (fun c31 => ?_)
           ·
            simp [ee] at c31
            refine goA 60 ?_
            refine fn_ret rfl rfl (.val ?_)
            exact congrArg (Value.int .i64) (by rw [hR]; (repeat' split) <;> first | rfl | omega)
           ·
            simp [ee] at c31
            refine goA 60 ?_
            refine fn_ret rfl rfl (.val ?_)
            exact congrArg (Value.int .i64) (by rw [hR]; (repeat' split) <;> first | rfl | omega)
          ·
           simp [ee] at c30
           refine goA 0 ?_
           refine on_cond rfl (fun c32 => ?_) (fun c32 => ?_)
           ·
            simp [ee] at c32
            refine goA 60 ?_
            refine fn_ret rfl rfl (.val ?_)
            exact congrArg (Value.int .i64) (by rw [hR]; (repeat' split) <;> first | rfl | omega)
           ·
            simp [ee] at c32
            refine goA 60 ?_
            refine fn_ret rfl rfl (.val ?_)
            exact congrArg (Value.int .i64) (by rw [hR]; (repeat' split) <;> first | rfl | omega)
  ·
   simp [ee] at c17
   refine goA 0 ?_
   refine on_cond rfl (fun c33 => ?_) (fun c33 => ?_)
   ·
    simp [ee] at c33
    refine goA 0 ?_
    refine on_cond rfl (fun c34 => ?_) (fun c34 => ?_)
    ·
     simp [ee] at c34
     refine goA 60 ?_
     refine fn_ret rfl rfl (.val ?_)
     exact congrArg (Value.int .i64) (by rw [hR]; (repeat' split) <;> first | rfl | omega)
    ·
     simp [ee] at c34
     refine goA 0 ?_
     refine on_cond rfl (fun c35 => ?_) (fun c35 => ?_)
     ·
      simp [ee] at c35
      refine goA 60 ?_
      refine fn_ret rfl rfl (.val ?_)
      exact congrArg (Value.int .i64) (by rw [hR]; (repeat' split) <;> first | rfl | omega)
     ·
      simp [ee] at c35
      refine goA 0 ?_
      refine on_cond rfl (fun c36 => ?_) (fun c36 => ?_)
      ·
       simp [ee] at c36
       refine goA 0 ?_
       refine on_cond rfl (fun c37 => ?_) (fun c37 => ?_)
       ·
        simp [ee] at c37
        refine goA 60 ?_
        refine fn_ret rfl rfl (.val ?_)
        exact congrArg (Value.int .i64) (by rw [hR]; (repeat' split) <;> first | rfl | omega)
       ·
        simp [ee] at c37
        refine goA 60 ?_
        refine fn_ret rfl rfl (.val ?_)
        exact congrArg (Value.int .i64) (by rw [hR]; (repeat' split) <;> first | rfl | omega)
      ·
       simp [ee] at c36
       refine goA 0 ?_
       refine on_cond rfl (fun c38 => ?_) (fun c38 => ?_)
       ·
        simp [ee] at c38
        refine goA 0 ?_
        refine on_cond rfl (fun c39 => ?_) (fun c39 => ?_)
        ·
         simp [ee] at c39
         refine goA 60 ?_
         refine fn_ret rfl rfl (.val ?_)
         exact congrArg (Value.int .i64) (by rw [hR]; (repeat' split) <;> first | rfl | omega)
        ·
         simp [ee] at c39
         refine goA 60 ?_
         refine fn_ret rfl rfl (.val ?_)
         exact congrArg (Value.int .i64) (by rw [hR]; (repeat' split) <;> first | rfl | omega)
       ·
        simp [ee] at c38
        refine goA 0 ?_
        refine on_cond rfl (fun c40 => ?_) (fun c40 => ?_)
        ·
         simp [ee] at c40
         refine goA 0 ?_
         refine on_cond rfl (fun c41 => ?_) (fun c41 => ?_)
         ·
          simp [ee] at c41
          refine goA 60 ?_
          refine fn_ret rfl rfl (.val ?_)
          exact congrArg (Value.int .i64) (by rw [hR]; (repeat' split) <;> first | rfl | omega)
         ·
          simp [ee] at c41
          refine goA 60 ?_
          refine fn_ret rfl rfl (.val ?_)
          exact congrArg (Value.int .i64) (by rw [hR]; (repeat' split) <;> first | rfl | omega)
        ·
         simp [ee] at c40
         refine goA 0 ?_
         refine on_cond rfl (fun c42 => ?_) (fun c42 => ?_)
         ·
          simp [ee] at c42
          refine goA 0 ?_
          refine on_cond rfl (fun c43 => ?_) (fun c43 => ?_)
          ·
           simp [ee] at c43
           refine goA 60 ?_
           refine fn_ret rfl rfl (.val ?_)
           exact congrArg (Value.int .i64) (by rw [hR]; (repeat' split) <;> first | rfl | omega)
          ·
           simp [ee] at c43
           refine goA 60 ?_
           refine fn_ret rfl rfl (.val ?_)
           exact congrArg (Value.int .i64) (by rw [hR]; (repeat' split) <;> first | rfl | omega)
         ·
          simp [ee] at c42
          refine goA 0 ?_
          refine on_cond rfl (fun c44 => ?_) (fun c44 => ?_)
          ·
           simp [ee] at c44
           refine goA 0 ?_
           refine on_cond rfl (fun c45 => ?_) (fun c45 => ?_)
           ·
            simp [ee] at c45
            refine goA 60 ?_
            refine fn_ret rfl rfl (.val ?_)
            exact congrArg (Value.int .i64) (by rw [hR]; (repeat' split) <;> first | rfl | omega)
           ·
            simp [ee] at c45
            refine goA 60 ?_
            refine fn_ret rfl rfl (.val ?_)
            exact congrArg (Value.int .i64) (by rw [hR]; (repeat' split) <;> first | rfl | omega)
          ·
           simp [ee] at c44
           refine goA 0 ?_
           refine on_cond rfl (fun c46 => ?_) (fun c46 => ?_)
           ·
            simp [ee] at c46
            refine goA 0 ?_
            refine on_cond rfl (fun c47 => ?_) (fun c47 => ?_)
            ·
             simp [ee] at c47
             refine goA 60 ?_
             refine fn_ret rfl rfl (.val ?_)
             exact congrArg (Value.int .i64) (by rw [hR]; (repeat' split) <;> first | rfl | omega)
            ·
             simp [ee] at c47
             refine goA 60 ?_
             refine fn_ret rfl rfl (.val ?_)
             exact congrArg (Value.int .i64) (by rw [hR]; (repeat' split) <;> first | rfl | omega)
           ·
            simp [ee] at c46
            refine goA 0 ?_
            refine on_cond rfl (fun c48 => ?_) (fun c48 => ?_)
            ·
             simp [ee] at c48
             refine goA 60 ?_
             refine fn_ret rfl rfl (.val ?_)
             exact congrArg (Value.int .i64) (by rw [hR]; (repeat' split) <;> first | rfl | omega)
            ·
             simp [ee] at c48
             refine goA 60 ?_
             refine fn_ret rfl rfl (.val ?_)
             exact congrArg (Value.int .i64) (by rw [hR]; (repeat' split) <;> first | rfl | omega)
   ·
    simp [ee] at c33
    refine goA 0 ?_
    refine on_cond rfl (fun c49 => ?_) (fun c49 => ?_)
    ·
     simp [ee] at c49
     refine goA 0 ?_
     refine on_cond rfl (fun c50 => ?_) (fun c50 => ?_)
     ·
      simp [ee] at c50
      refine goA 60 ?_
      refine fn_ret rfl rfl (.val ?_)
      exact congrArg (Value.int .i64) (by rw [hR]; (repeat' split) <;> first | rfl | omega)
     ·
      simp [ee] at c50
      refine goA 0 ?_
      refine on_cond rfl (fun c51 => ?_) (fun c51 => ?_)
      ·
       simp [ee] at c51
       refine goA 60 ?_
       refine fn_ret rfl rfl (.val ?_)
       exact congrArg (Value.int .i64) (by rw [hR]; (repeat' split) <;> first | rfl | omega)
      ·
       simp [ee] at c51
       refine goA 0 ?_
       refine on_cond rfl (fun c52 => ?_) (fun c52 => ?_)
       ·
        simp [ee] at c52
        refine goA 0 ?_
        refine on_cond rfl (fun c53 => ?_) (fun c53 => ?_)
        ·
         simp [ee] at c53
         refine goA 60 ?_
         refine fn_ret rfl rfl (.val ?_)
         exact congrArg (Value.int .i64) (by rw [hR]; (repeat' split) <;> first | rfl | omega)
        ·
         simp [ee] at c53
         refine goA 60 ?_
         refine fn_ret rfl rfl (.val ?_)
         exact congrArg (Value.int .i64) (by rw [hR]; (repeat' split) <;> first | rfl | omega)
       ·
        simp [ee] at c52
        refine goA 0 ?_
        refine on_cond rfl (fun c54 => ?_) (fun c54 => ?_)
        ·
         simp [ee] at c54
         refine goA 0 ?_
         refine on_cond rfl (fun c55 => ?_) (fun c55 => ?_)
         ·
          simp [ee] at c55
          refine goA 60 ?_
          refine fn_ret rfl rfl (.val ?_)
          exact congrArg (Value.int .i64) (by rw [hR]; (repeat' split) <;> first | rfl | omega)
         ·
          simp [ee] at c55
          refine goA 60 ?_
          refine fn_ret rfl rfl (.val ?_)
          exact congrArg (Value.int .i64) (by rw [hR]; (repeat' split) <;> first | rfl | omega)
        ·
         simp [ee] at c54
         refine goA 0 ?_
         refine on_cond rfl (fun c56 => ?_) (fun c56 => ?_)
         ·
          simp [ee] at c56
          refine goA 0 ?_
          refine on_cond rfl (fun c57 => ?_) (fun c57 => ?_)
          ·
           simp [ee] at c57
           refine goA 60 ?_
           refine fn_ret rfl rfl (.val ?_)
           exact congrArg (Value.int .i64) (by rw [hR]; (repeat' split) <;> first | rfl | omega)
          ·
           simp [ee] at c57
           refine goA 60 ?_
           refine fn_ret rfl rfl (.val ?_)
           exact congrArg (Value.int .i64) (by rw [hR]; (repeat' split) <;> first | rfl | omega)
         ·
          simp [ee] at c56
          refine goA 0 ?_
          refine on_cond rfl (fun c58 => ?_) (fun c58 => ?_)
          ·
           simp [ee] at c58
           refine goA 0 ?_
           refine on_cond rfl (fun c59 => ?_) (fun c59 => ?_)
           ·
            simp [ee] at c59
            refine goA 60 ?_
            refine fn_ret rfl rfl (.val ?_)
            exact congrArg (Value.int .i64) (by rw [hR]; (repeat' split) <;> first | rfl | omega)
           ·
            simp [ee] at c59
            refine goA 60 ?_
            refine fn_ret rfl rfl (.val ?_)
            exact congrArg (Value.int .i64) (by rw [hR]; (repeat' split) <;> first | rfl | omega)
          ·
           simp [ee] at c58
           refine goA 0 ?_
           refine on_cond rfl (fun c60 => ?_) (fun c60 => ?_)
           ·
            simp [ee] at c60
            refine goA 0 ?_
            refine on_cond rfl (fun c61 => ?_) (fun c61 => ?_)
            ·
             simp [ee] at c61
             refine goA 60 ?_
             refine fn_ret rfl rfl (.val ?_)
             exact congrArg (Value.int .i64) (by rw [hR]; (repeat' split) <;> first | rfl | omega)
            ·
             simp [ee] at c61
             refine goA 60 ?_
             refine fn_ret rfl rfl (.val ?_)
             exact congrArg (Value.int .i64) (by rw [hR]; (repeat' split) <;> first | rfl | omega)
           ·
            simp [ee] at c60
            refine goA 0 ?_
            refine on_cond rfl (fun c62 => ?_) (fun c62 => ?_)
            ·
             simp [ee] at c62
             refine goA 0 ?_
             refine on_cond rfl (fun c63 => ?_) (fun c63 => ?_)
             ·
              simp [ee] at c63
              refine goA 60 ?_
              refine fn_ret rfl rfl (.val ?_)
              exact congrArg (Value.int .i64) (by rw [hR]; (repeat' split) <;> first | rfl | omega)
             ·
              simp [ee] at c63
              refine goA 60 ?_
              refine fn_ret rfl rfl (.val ?_)
              exact congrArg (Value.int .i64) (by rw [hR]; (repeat' split) <;> first | rfl | omega)
            ·
             simp [ee] at c62
             refine goA 0 ?_
             refine on_cond rfl (fun c64 => ?_) (fun c64 => ?_)
             ·
              simp [ee] at c64
              refine goA 60 ?_
              refine fn_ret rfl rfl (.val ?_)
              exact congrArg (Value.int .i64) (by rw [hR]; (repeat' split) <;> first | rfl | omega)
             ·
              simp [ee] at c64
              refine goA 60 ?_
              refine fn_ret rfl rfl (.val ?_)
              exact congrArg (Value.int .i64) (by rw [hR]; (repeat' split) <;> first | rfl | omega)
    ·
     simp [ee] at c49
     refine goA 0 ?_
     refine on_cond rfl (fun c65 => ?_) (fun c65 => ?_)
     ·
      simp [ee] at c65
      refine goA 60 ?_
      refine fn_ret rfl rfl (.val ?_)
      exact congrArg (Value.int .i64) (by rw [hR]; (repeat' split) <;> first | rfl | omega)
     ·
      simp [ee] at c65
      refine goA 0 ?_
      refine on_cond rfl (fun c66 => ?_) (fun c66 => ?_)
      ·
       simp [ee] at c66
       refine goA 60 ?_
       refine fn_ret rfl rfl (.val ?_)
       exact congrArg (Value.int .i64) (by rw [hR]; (repeat' split) <;> first | rfl | omega)
      ·
       simp [ee] at c66
       refine goA 0 ?_
       refine on_cond rfl (fun c67 => ?_) (fun c67 => ?_)
       ·
        simp [ee] at c67
        refine goA 0 ?_
        refine on_cond rfl (fun c68 => ?_) (fun c68 => ?_)
        ·
         simp [ee] at c68
         refine goA 60 ?_
         refine fn_ret rfl rfl (.val ?_)
         exact congrArg (Value.int .i64) (by rw [hR]; (repeat' split) <;> first | rfl | omega)
        ·
         simp [ee] at c68
         refine goA 60 ?_
         refine fn_ret rfl rfl (.val ?_)
         exact congrArg (Value.int .i64) (by rw [hR]; (repeat' split) <;> first | rfl | omega)
       ·
        simp [ee] at c67
        refine goA 0 ?_
        refine on_cond rfl (fun c69 => ?_) (fun c69 => ?_)
        ·
         simp [ee] at c69
         refine goA 0 ?_
         refine on_cond rfl (fun c70 => ?_) (fun c70 => ?_)
         ·
          simp [ee] at c70
          refine goA 60 ?_
          refine fn_ret rfl rfl (.val ?_)
          exact congrArg (Value.int .i64) (by rw [hR]; (repeat' split) <;> first | rfl | omega)
         ·
          simp [ee] at c70
          refine goA 60 ?_
          refine fn_ret rfl rfl (.val ?_)
          exact congrArg (Value.int .i64) (by rw [hR]; (repeat' split) <;> first | rfl | omega)
        ·
         simp [ee] at c69
         refine goA 0 ?_
         refine on_cond rfl (fun c71 => ?_) (fun c71 => ?_)
         ·
          simp [ee] at c71
          refine goA 0 ?_
          refine on_cond rfl (fun c72 => ?_) (fun c72 => ?_)
          ·
           simp [ee] at c72
           refine goA 60 ?_
           refine fn_ret rfl rfl (.val ?_)
           exact congrArg (Value.int .i64) (by rw [hR]; (repeat' split) <;> first | rfl | omega)
          ·
           simp [ee] at c72
           refine goA 60 ?_
           refine fn_ret rfl rfl (.val ?_)
           exact congrArg (Value.int .i64) (by rw [hR]; (repeat' split) <;> first | rfl | omega)
         ·
          simp [ee] at c71
          refine goA 0 ?_
          refine on_cond rfl (fun c73 => ?_) (fun c73 => ?_)
          ·
           simp [ee] at c73
           refine goA 0 ?_
           refine on_cond rfl (fun c74 => ?_) (fun c74 => ?_)
           ·
            simp [ee] at c74
            refine goA 60 ?_
            refine fn_ret rfl rfl (.val ?_)
            exact congrArg (Value.int .i64) (by rw [hR]; (repeat' split) <;> first | rfl | omega)
           ·
            simp [ee] at c74
            refine goA 60 ?_
            refine fn_ret rfl rfl (.val ?_)
            exact congrArg (Value.int .i64) (by rw [hR]; (repeat' split) <;> first | rfl | omega)
          ·
           simp [ee] at c73
           refine goA 0 ?_
           refine on_cond rfl (fun c75 => ?_) (fun c75 => ?_)
           ·
            simp [ee] at c75
            refine goA 0 ?_
            refine on_cond rfl (fun c76 => ?_) (fun c76 => ?_)
            ·
             simp [ee] at c76
             refine goA 60 ?_
             refine fn_ret rfl rfl (.val ?_)
             exact congrArg (Value.int .i64) (by rw [hR]; (repeat' split) <;> first | rfl | omega)
            ·
             simp [ee] at c76
             refine goA 60 ?_
             refine fn_ret rfl rfl (.val ?_)
             exact congrArg (Value.int .i64) (by rw [hR]; (repeat' split) <;> first | rfl | omega)
           ·
            simp [ee] at c75
            refine goA 0 ?_
            refine on_cond rfl (fun c77 => ?_) (fun c77 => ?_)
            ·
             simp [ee] at c77
             refine goA 0 ?_
             refine on_cond rfl (fun c78 => ?_) (fun c78 => ?_)
             ·
              simp [ee] at c78
              refine goA 60 ?_
              refine fn_ret rfl rfl (.val ?_)
              exact congrArg (Value.int .i64) (by rw [hR]; (repeat' split) <;> first | rfl | omega)
             ·
              simp [ee] at c78
              refine goA 60 ?_
              refine fn_ret rfl rfl (.val ?_)
              exact congrArg (Value.int .i64) (by rw [hR]; (repeat' split) <;> first | rfl | omega)
            ·
             simp [ee] at c77
             refine goA 0 ?_
             refine on_cond rfl (fun c79 => ?_) (fun c79 => ?_)
             ·
              simp [ee] at c79
              refine goA 60 ?_
              refine fn_ret rfl rfl (.val ?_)
              exact congrArg (Value.int .i64) (by rw [hR]; (repeat' split) <;> first | rfl | omega)
             ·
              simp [ee] at c79
              refine goA 60 ?_
              refine fn_ret rfl rfl (.val ?_)
              exact congrArg (Value.int .i64) (by rw [hR]; (repeat' split) <;> first | rfl | omega)
theorem P_ref08_node (e : Ex) (hlen : e.args.length < 1048576) : PCall EE 55 [e.enc] (int e.nodeE) := by
 have hu := P_ref08_uses e.op
 have har := P_ref08_arity e.op
 have hk := P_ref01_Check e.val
 have hsu := P_ref07_Suits e.kind e.val
 have h0 := @Vl.eq0 e.val
 have hcl := Ex.closed e
 obtain ⟨R, hR⟩ : ∃ R, R = e.nodeE := ⟨_, rfl⟩
 rw [← hR]
 have hss : 1 ≤ e.kind → suitsF e.kind e.val = suitsR e.kind e.val := fun h => by
  unfold suitsF suitsR; rw [Bool.eq_iff_iff]; simp; omega
 have hab : arityB e.op = decide (0 ≤ arityR e.op) := by
  unfold arityB arityR; rw [Bool.eq_iff_iff]; simp; (repeat' split) <;> omega
 have han : 0 ≤ arityR e.op → arityN e.op = arityR e.op := fun h => by
  unfold arityR at h; unfold arityN arityR; (repeat' split) <;> simp_all
 have hvl : e.val.enc = .agg [int e.val.kind, int e.val.num, str e.val.text] := rfl
 rw [hvl] at hk hsu
 unfold Ex.nodeE Ex.formB Ex.consE at hR
 generalize usesV e.op = uv at *
 generalize usesF e.op = uf at *
 generalize arityN e.op = an at *
 generalize arityB e.op = ab at *
 generalize arityR e.op = ar at *
 generalize suitsF e.kind e.val = sf at *
 generalize suitsR e.kind e.val = sr at *
 generalize e.val.chk = ck at *
 obtain ⟨o, a, v, f, k, ⟨xk, xn, xt⟩⟩ := e
 simp only [Ex.op, Ex.kind, Ex.val, Ex.args, Ex.var, Ex.fld] at *
 rw [Ex.enc_mk] at hcl ⊢
 dsimp only at *
 refine wordsN ?_; unhygienic intros
 generalize hes : mapE Ex.enc a = es at *
 have hel : es.length = a.length := by rw [← hes, mapE_len]
 refine fn_body (fn := Tryd.f55) (n := 131) (ac := Trydc55) (rvs := [.t 2]) rfl (by decide) Trydp55 rfl rfl rfl ?_
 refine goA 60 ?_
 refine oPA har ?_
 refine goA 0 ?_
 refine on_cond rfl (fun c1 => ?_) (fun c1 => ?_)
 ·
  simp [ee] at c1
  refine goA 60 ?_
  refine fn_ret rfl rfl (.val ?_)
  exact congrArg (Value.int .i64) (by rw [hR]; clear ee hX; grind)
 ·
  simp [ee] at c1
  refine goA 0 ?_
  refine on_cond rfl (fun c2 => ?_) (fun c2 => ?_)
  ·
   simp [ee] at c2
   refine goA 60 ?_
   refine fn_ret rfl rfl (.val ?_)
   exact congrArg (Value.int .i64) (by rw [hR]; clear ee hX; grind)
  ·
   simp [ee] at c2
   refine goA 60 ?_
   refine oPA hu ?_
   refine goA 0 ?_
   refine nsB hX (by conv => lhs; cbv) ?_
   refine goA 0 ?_
   refine nsB hX (by conv => lhs; cbv) ?_
   refine goA 0 ?_
   refine on_cond rfl (fun c3 => ?_) (fun c3 => ?_)
   ·
    simp [ee] at c3
    refine goA 60 ?_
    refine fn_ret rfl rfl (.val ?_)
    exact congrArg (Value.int .i64) (by rw [hR]; clear ee hX; grind)
   ·
    simp [ee] at c3
    refine goA 0 ?_
    refine nsB hX (by conv => lhs; cbv) ?_
    refine goA 0 ?_
    refine on_cond rfl (fun c4 => ?_) (fun c4 => ?_)
    ·
     simp [ee] at c4
     refine goA 60 ?_
     refine fn_ret rfl rfl (.val ?_)
     exact congrArg (Value.int .i64) (by rw [hR]; clear ee hX; grind)
    ·
     simp [ee] at c4
     refine goA 0 ?_
     refine on_cond rfl (fun c5 => ?_) (fun c5 => ?_)
     ·
      simp [ee] at c5
      refine goA 60 ?_
      refine oPA hk ?_
      refine goA 0 ?_
      refine on_cond rfl (fun c6 => ?_) (fun c6 => ?_)
      ·
       simp [ee] at c6
       refine goA 60 ?_
       refine fn_ret rfl rfl (.val ?_)
       exact congrArg (Value.int .i64) (by rw [hR]; clear ee hX; grind)
      ·
       simp [ee] at c6
       refine goA 0 ?_
       refine on_guard rfl rfl (fun c7 => ?_) (fun c7 => ?_)
       ·
        simp [ee] at c7
        refine goA 60 ?_
        refine oPG hsu ?_
        refine goA 0 ?_
        refine goA 1 ?_
        refine goA 1 ?_
        refine nsB hX (by conv => lhs; cbv) ?_
        refine goA 0 ?_
        refine on_cond rfl (fun c8 => ?_) (fun c8 => ?_)
        ·
         simp [ee] at c8
         refine goA 60 ?_
         refine fn_ret rfl rfl (.val ?_)
         exact congrArg (Value.int .i64) (by rw [hR]; clear ee hX; grind)
        ·
         simp [ee] at c8
         refine goA 0 ?_
         refine nsB hX (by conv => lhs; cbv) ?_
         refine goA 0 ?_
         refine nsB hX (by conv => lhs; cbv) ?_
         refine goA 0 ?_
         refine nsB hX (by conv => lhs; cbv) ?_
         refine goA 0 ?_
         refine on_cond rfl (fun c9 => ?_) (fun c9 => ?_)
         ·
          simp [ee] at c9
          refine goA 60 ?_
          refine fn_ret rfl rfl (.val ?_)
          exact congrArg (Value.int .i64) (by rw [hR]; clear ee hX; grind)
         ·
          simp [ee] at c9
          refine goA 60 ?_
          refine fn_ret rfl rfl (.val ?_)
          exact congrArg (Value.int .i64) (by rw [hR]; clear ee hX; grind)
       ·
        simp [ee] at c7
        refine goA 60 ?_
        refine on_gskip rfl rfl ?_
        refine goA 0 ?_
        refine goA 1 ?_
        refine nsB hX (by conv => lhs; cbv) ?_
        refine goA 0 ?_
        refine nsB hX (by conv => lhs; cbv) ?_
        refine goA 0 ?_
        refine nsB hX (by conv => lhs; cbv) ?_
        refine goA 0 ?_
        refine on_cond rfl (fun c10 => ?_) (fun c10 => ?_)
        ·
         simp [ee] at c10
         refine goA 60 ?_
         refine fn_ret rfl rfl (.val ?_)
         exact congrArg (Value.int .i64) (by rw [hR]; clear ee hX; grind)
        ·
         simp [ee] at c10
         refine goA 60 ?_
         refine fn_ret rfl rfl (.val ?_)
         exact congrArg (Value.int .i64) (by rw [hR]; clear ee hX; grind)
     ·
      simp [ee] at c5
      refine goA 0 ?_
      refine on_guard rfl rfl (fun c11 => ?_) (fun c11 => ?_)
      ·
       simp [ee] at c11
       refine goA 60 ?_
       refine oPG hsu ?_
       refine goA 0 ?_
       refine goA 1 ?_
       refine goA 1 ?_
       refine nsB hX (by conv => lhs; cbv) ?_
       refine goA 0 ?_
       refine on_cond rfl (fun c12 => ?_) (fun c12 => ?_)
       ·
        simp [ee] at c12
        refine goA 60 ?_
        refine fn_ret rfl rfl (.val ?_)
        exact congrArg (Value.int .i64) (by rw [hR]; clear ee hX; grind)
       ·
        simp [ee] at c12
        refine goA 0 ?_
        refine nsB hX (by conv => lhs; cbv) ?_
        refine goA 0 ?_
        refine nsB hX (by conv => lhs; cbv) ?_
        refine goA 0 ?_
        refine nsB hX (by conv => lhs; cbv) ?_
        refine goA 0 ?_
        refine on_cond rfl (fun c13 => ?_) (fun c13 => ?_)
        ·
         simp [ee] at c13
         refine goA 60 ?_
         refine fn_ret rfl rfl (.val ?_)
         exact congrArg (Value.int .i64) (by rw [hR]; clear ee hX; grind)
        ·
         simp [ee] at c13
         refine goA 60 ?_
         refine fn_ret rfl rfl (.val ?_)
         exact congrArg (Value.int .i64) (by rw [hR]; clear ee hX; grind)
      ·
       simp [ee] at c11
       refine goA 60 ?_
       refine on_gskip rfl rfl ?_
       refine goA 0 ?_
       refine goA 1 ?_
       refine nsB hX (by conv => lhs; cbv) ?_
       refine goA 0 ?_
       refine nsB hX (by conv => lhs; cbv) ?_
       refine goA 0 ?_
       refine nsB hX (by conv => lhs; cbv) ?_
       refine goA 0 ?_
       refine on_cond rfl (fun c14 => ?_) (fun c14 => ?_)
       ·
        simp [ee] at c14
        refine goA 60 ?_
        refine fn_ret rfl rfl (.val ?_)
        exact congrArg (Value.int .i64) (by rw [hR]; clear ee hX; grind)
       ·
        simp [ee] at c14
        refine goA 60 ?_
        refine fn_ret rfl rfl (.val ?_)
        exact congrArg (Value.int .i64) (by rw [hR]; clear ee hX; grind)
def renE (to : List Int) (q : Ex) : Int := if usesV q.op = false then 0 else if (to.length : Int) ≤ q.var then 6 else if to.getD q.var.toNat 0 < 0 ∨ 16 ≤ to.getD q.var.toNat 0 then 2 else 0
def renG (to : List Int) (q : Ex) : Ex := if usesV q.op = true then .mk q.op q.args (to.getD q.var.toNat 0) q.fld q.kind q.val else q
theorem P_ren1 (to : List Int) (q : Ex) (hq : usesV q.op = true → 0 ≤ q.var) : PCall EE 68 [q.enc, .iptr [.isl 1 (mapE int to)]] (int (renE to q)) := by
 have hu := P_expr_uses q.op
 have hcl := closedI_int to
 obtain ⟨R, hR⟩ : ∃ R, R = renE to q := ⟨_, rfl⟩
 rw [← hR]
 have r0 : usesV q.op = false → R = 0 := fun h => by rw [hR, renE, if_pos h]
 have r6 : usesV q.op = true → (to.length : Int) ≤ q.var → R = 6 := fun h h2 => by rw [hR, renE, if_neg (by simp [h]), if_pos h2]
 have r2 : usesV q.op = true → ¬ (to.length : Int) ≤ q.var → (to.getD q.var.toNat 0 < 0 ∨ 16 ≤ to.getD q.var.toNat 0) → R = 2 := fun h h2 h3 => by rw [hR, renE, if_neg (by simp [h]), if_neg h2, if_pos h3]
 have r00 : usesV q.op = true → ¬ (to.length : Int) ≤ q.var → ¬ (to.getD q.var.toNat 0 < 0 ∨ 16 ≤ to.getD q.var.toNat 0) → R = 0 := fun h h2 h3 => by rw [hR, renE, if_neg (by simp [h]), if_neg h2, if_neg h3]
 clear hR
 generalize usesV q.op = uv at *
 generalize usesF q.op = uf at *
 obtain ⟨o, a, v, f, k, ⟨xk, xn, xt⟩⟩ := q
 simp only [Ex.op, Ex.var] at *
 rw [Ex.enc_mk]
 dsimp only
 refine wordsN ?_; unhygienic intros
 generalize mapE Ex.enc a = ea
 generalize hes : mapE int to = es at *
 have hel : es.length = to.length := by rw [← hes, mapE_len]
 refine fn_body (fn := Tryd.f68) (n := 36) (ac := Trydc68) (rvs := [.t 3]) rfl (by decide) Trydp68 rfl rfl rfl ?_
 cases uv with
 | false =>
  have k0 : bNot false = true := by simp only [ee]; rfl
  have hR := r0 rfl
  refine goA 60 ?_
  refine oPA hu ?_
  refine goB hX 0 (by conv => lhs; cbv; try simp only [k0]; cbv; try simp only [k0]; cbv; try simp only [k0]; cbv; try simp only [k0]; cbv) ?_
  refine goA 60 ?_
  refine fn_ret rfl rfl (.val ?_)
  exact congrArg (Value.int .i64) hR.symm
 | true =>
  have k0 : bNot true = false := by simp only [ee]; rfl
  have hv := hq rfl
  have r6 := r6 rfl
  have r2 := r2 rfl
  have r00 := r00 rfl
  by_cases h1 : (to.length : Int) ≤ v
  · have k1 : iLe (lenA es) v = true := by simp only [ee]; simp; omega
    have hR := r6 h1
    refine goA 60 ?_
    refine oPA hu ?_
    refine goB hX 0 (by conv => lhs; cbv; try simp only [k0, k1]; cbv; try simp only [k0, k1]; cbv; try simp only [k0, k1]; cbv; try simp only [k0, k1]; cbv) ?_
    refine goB hX 1 (by conv => lhs; cbv; try simp only [k0, k1]; cbv; try simp only [k0, k1]; cbv; try simp only [k0, k1]; cbv; try simp only [k0, k1]; cbv) ?_
    refine goA 60 ?_
    refine fn_ret rfl rfl (.val ?_)
    exact congrArg (Value.int .i64) hR.symm
  · have k1 : iLe (lenA es) v = false := by simp only [ee]; simp; omega
    have r2 := r2 h1
    have r00 := r00 h1
    have hat : atA es v = int (to.getD v.toNat 0) := by
     simp only [ee]
     rw [← hes, mapE_eq, List.getD_eq_getElem?_getD, List.getElem?_map, List.getD_eq_getElem?_getD, List.getElem?_eq_getElem (by omega)]; rfl
    generalize to.getD v.toNat 0 = tv at *
    refine goA 60 ?_
    refine oPA hu ?_
    refine goB hX 0 (by conv => lhs; cbv; try simp only [k0, k1, hat]; cbv; try simp only [k0, k1, hat]; cbv; try simp only [k0, k1, hat]; cbv; try simp only [k0, k1, hat]; cbv) ?_
    refine goB hX 1 (by conv => lhs; cbv; try simp only [k0, k1, hat]; cbv; try simp only [k0, k1, hat]; cbv; try simp only [k0, k1, hat]; cbv; try simp only [k0, k1, hat]; cbv) ?_
    refine goB hX 1 (by conv => lhs; cbv; try simp only [k0, k1, hat]; cbv; try simp only [k0, k1, hat]; cbv; try simp only [k0, k1, hat]; cbv; try simp only [k0, k1, hat]; cbv) ?_
    refine on_cond rfl (fun c1 => ?_) (fun c1 => ?_)
    ·
     simp [ee] at c1
     refine goA 60 ?_
     refine fn_ret rfl rfl (.val ?_)
     exact congrArg (Value.int .i64) (r2 (by omega)).symm
    ·
     simp [ee] at c1
     refine goA 60 ?_
     refine fn_ret rfl rfl (.val ?_)
     exact congrArg (Value.int .i64) (r00 (by omega)).symm
theorem P_ren2 (to : List Int) (q : Ex) (hq : usesV q.op = true → 0 ≤ q.var ∧ q.var < to.length) : PCall EE 71 [q.enc, .iptr [.isl 1 (mapE int to)]] (renG to q).enc := by
 have hu := P_expr_uses q.op
 have hcl := closedI_int to
 have hqc := Ex.closed q
 obtain ⟨R, hR⟩ : ∃ R, R = renG to q := ⟨_, rfl⟩
 rw [← hR]
 unfold renG at hR
 generalize usesV q.op = uv at *
 generalize usesF q.op = uf at *
 obtain ⟨o, a, v, f, k, ⟨xk, xn, xt⟩⟩ := q
 simp only [Ex.op, Ex.kind, Ex.val, Ex.args, Ex.var, Ex.fld] at *
 have hac := Ex.closedI a
 cases uv with
 | false =>
  rw [if_neg (by simp)] at hR
  rw [hR, Ex.enc_mk] at *
  dsimp only at *
  refine wordsN ?_; unhygienic intros
  generalize mapE Ex.enc a = ea at *
  generalize hes : mapE int to = es at *
  refine fn_body (fn := Tryd.f71) (n := 20) (ac := Trydc71) (rvs := [.cell 3 8 true]) rfl (by decide) Trydp71 rfl rfl rfl ?_
  refine goA 60 ?_
  refine oPA hu ?_
  refine goA 60 ?_
  refine fn_ret rfl rfl ?_
  exact ⟨[.gone, .gone], ⟨trivial, trivial, trivial⟩, .cl hqc⟩
 | true =>
  rw [if_pos rfl] at hR
  have hv := hq rfl
  rw [hR, Ex.enc_mk, Ex.enc_mk] at *
  dsimp only at *
  refine wordsN ?_; unhygienic intros
  generalize mapE Ex.enc a = ea at *
  generalize hes : mapE int to = es at *
  have hel : es.length = to.length := by rw [← hes, mapE_len]
  have hat : atA es v = int (to.getD v.toNat 0) := by
   simp only [ee]
   rw [← hes, mapE_eq, List.getD_eq_getElem?_getD, List.getElem?_map, List.getD_eq_getElem?_getD, List.getElem?_eq_getElem (by omega)]; rfl
  generalize to.getD v.toNat 0 = tv at *
  refine fn_body (fn := Tryd.f71) (n := 20) (ac := Trydc71) (rvs := [.cell 3 8 true]) rfl (by decide) Trydp71 rfl rfl rfl ?_
  refine goA 60 ?_
  refine oPA hu ?_
  refine goB hX 0 (by conv => lhs; cbv; try simp only [hat]; cbv; try simp only [hat]; cbv; try simp only [hat]; cbv; try simp only [hat]; cbv) ?_
  refine goB hX 1 (by conv => lhs; cbv; try simp only [hat]; cbv; try simp only [hat]; cbv; try simp only [hat]; cbv; try simp only [hat]; cbv) ?_
  refine fn_ret rfl rfl ?_
  exact ⟨[.gone, .gone], ⟨trivial, trivial, trivial⟩, .cl hqc⟩
mutual
def Ex.reb (G : Ex → Ex) : Ex → Ex
 | .mk o a v f k x => G (.mk o (Ex.rebL G a) v f k x)
def Ex.rebL (G : Ex → Ex) : List Ex → List Ex
 | [] => []
 | e :: r => e.reb G :: Ex.rebL G r
end
theorem Ex.rebL_append (G : Ex → Ex) (a b : List Ex) : Ex.rebL G (a ++ b) = Ex.rebL G a ++ Ex.rebL G b := by
 induction a with
 | nil => rfl
 | cons x r ih => simp [Ex.rebL, ih]
theorem Ex.rebL_len (G : Ex → Ex) (a : List Ex) : (Ex.rebL G a).length = a.length := by
 induction a with
 | nil => rfl
 | cons x r ih => simp [Ex.rebL, ih]
theorem P_rebuilt (g : FuncId) (cs : List AV) (hcs : AV.closedL cs = true) (G : Ex → Ex) (ok : Int → Int → Prop) (hg : ∀ q : Ex, ok q.op q.var → PCall EE g ([q.enc] ++ cs) (G q).enc) : ∀ e : Ex, e.Sm → (∀ q ∈ e.nodes, ok q.op q.var) → PCall EE 70 [e.enc, .fn g cs] (e.reb G).enc := by
 refine Ex.ind ?_
 intro o a v f k x ih hs hF
 have hlen := hs.len
 have hih : ∀ q ∈ a, PCall EE 70 [q.enc, .fn g cs] (q.reb G).enc := fun q hq => ih q hq (hs.arg hq) fun q2 hq2 => hF q2 (by
  rw [Ex.nodes]
  obtain ⟨d, r, rfl⟩ := List.append_of_mem hq
  simp [Ex.nodesL_append, Ex.nodesL, hq2])
 have hcl := Ex.closedI a
 have hh := hg (.mk o (Ex.rebL G a) v f k x) (hF (.mk o a v f k x) (by rw [Ex.nodes]; simp))
 rw [Ex.reb]
 obtain ⟨R, hR⟩ : ∃ R, R = (G (.mk o (Ex.rebL G a) v f k x)) := ⟨_, rfl⟩
 rw [← hR] at hh ⊢
 have hRc := Ex.closed R
 obtain ⟨xk, xn, xt⟩ := x
 have hnc := Ex.closed (.mk o (Ex.rebL G a) v f k ⟨xk, xn, xt⟩)
 have hrc := Ex.closedL (Ex.rebL G a)
 rw [Ex.enc_mk] at hh hnc ⊢
 dsimp only at hh hnc ⊢
 have hfn : (AV.fn g cs).closed = true := by simp [AV.closed, hcs]
 have hnil : mapE Ex.enc [] = [] := by rw [mapE_eq]; rfl
 have hrl : (mapE Ex.enc (Ex.rebL G a)).length = a.length := by rw [mapE_len, Ex.rebL_len]
 clear ih hs hF hR
 obtain ⟨RO, RA, RV, RF, RK, RXk, RXn, RXt, hx⟩ := Ex.form R
 rw [hx] at hh hRc ⊢
 refine wordsN ?_; unhygienic intros
 generalize hes : mapE Ex.enc a = es at *
 have hel : es.length = a.length := by rw [← hes, mapE_len]
 refine fn_body (fn := Tryd.f70) (n := 29) (ac := Trydc70) (rvs := [.cell 4 8 true]) rfl (by decide) Trydp70 rfl rfl rfl ?_
 refine goA 60 ?_
 refine on_loopP (ι := List Ex × List Ex × Int × Nat × List AV) (fun p => ([(13, int p.2.2.1), (12, int (lenA es)), (11, .isl 8 es), (1, .fn g cs), (4, .ptr 0 0), (5, .ptr 1 0)], [.cells [int 0, .val (.slice none 0 0), int 0, int 0, int 0, int 0, int 0, str ⟨#[]⟩], .cells [int o, .sl 2 8 0 p.2.2.2.1, int v, int f, int k, int xk, int xn, str xt], .arr 8 p.2.2.2.2])) (fun p => a = p.1 ++ p.2.1 ∧ p.2.2.1 = p.1.length ∧ p.2.2.2.1 = p.2.2.2.2.length ∧ p.2.2.2.2 = mapE Ex.enc (Ex.rebL G p.1)) (fun p => p.2.1.length) ([], a, 0, 0, []) ⟨rfl, rfl, rfl, hnil.symm⟩ ?_ ?_
 · exact (ent_sub [.gone, .to 0, .to 1] [some 1, some 2, none] ⟨trivial, ⟨by simp, rfl⟩, ⟨by simp, rfl⟩, trivial⟩ ⟨osrc_cells (b := 1) rfl rfl rfl ⟨.refl _, .refl _, .refl _, .refl _, .refl _, .refl _, .refl _, .refl _, trivial⟩, osrc_cells (b := 2) rfl rfl rfl ⟨.refl _, .nilS _ _ _ (by simp), .refl _, .refl _, .refl _, .refl _, .refl _, .refl _, trivial⟩, .none _ rfl, trivial⟩ ⟨.refl _, .refl _, .cl hcl, .cl hfn, .refl _, .refl _, trivial⟩)
 rintro ⟨d, r, i, m, w⟩ ⟨g1, gi, gm, gw⟩
 dsimp only at g1 gi gm gw ⊢
 have hcw : AV.closedL w = true := by rw [gw]; exact Ex.closedL _
 have hm : m = d.length := by rw [gm, gw, mapE_len, Ex.rebL_len]
 cases r with
 | nil =>
  have L1 := len_split g1
  try simp only [List.length] at L1
  have hc : iLt i (lenA es) = false := lt_f e_iLt e_lenA (by omega)
  rw [List.append_nil] at g1
  rw [g1, ← gw] at hh
  rw [g1, ← gw] at hnc
  refine goB hX 1 (by conv => lhs; cbv; try simp only [hc]; cbv; try simp only [hc]; cbv; try simp only [hc]; cbv; try simp only [hc]; cbv) ?_
  refine loopP_exit ?_
  refine goA 0 ?_
  refine on_entO (F' := [(27, .agg [int o, .isl 8 w, int v, int f, int k, int xk, int xn, str xt]), (26, .fn g cs), (4, .ptr 0 0)]) (H' := [.cells [int 0, .val (.slice none 0 0), int 0, int 0, int 0, int 0, int 0, str ⟨#[]⟩]]) ?_ ?_
  · exact (ent_sub [.to 0, .gone, .isl 8 (w)] [some 0] ⟨⟨by simp, rfl⟩, trivial, ⟨_, rfl, (subL_closed _ hcw).symm⟩, trivial⟩ ⟨osrc_cells (b := 0) rfl rfl rfl ⟨.refl _, .refl _, .refl _, .refl _, .refl _, .refl _, .refl _, .refl _, trivial⟩, trivial⟩ ⟨.agg' ⟨.refl _, .of (sub_whole rfl (by assumption)), .refl _, .refl _, .refl _, .refl _, .refl _, .refl _, trivial⟩, .cl hfn, .refl _, trivial⟩)
  refine on_pcallv (args := [AV.agg [int o, AV.isl 8 w, int v, int f, int k, int xk, int xn, str xt]] ++ cs) rfl rfl rfl rfl hh (by simp [AV.closedL, hnc, hcs]) ?_
  refine goA 60 ?_
  refine fn_ret rfl rfl ?_
  exact ⟨[.gone], ⟨trivial, trivial⟩, .cl hRc⟩
 | cons q r =>
  have L1 := len_split g1
  try simp only [List.length] at L1
  have hc : iLt i (lenA es) = true := lt_t e_iLt e_lenA (by omega)
  have hat := el_at e_atA hes g1 gi
  have hq := hih q (by rw [g1]; simp)
  have hqc := Ex.closed q
  have hqr := Ex.closed (q.reb G)
  have hi2 : iAdd .i64 i 1 = ((d ++ [q]).length : Int) := by rw [List.length_append]; exact inc_w e_iAdd gi (by omega)
  have hw2 : w ++ [(q.reb G).enc] = mapE Ex.enc (Ex.rebL G (d ++ [q])) := by rw [gw, mapE_eq, mapE_eq, Ex.rebL_append]; simp [Ex.rebL]
  generalize q.reb G = qr at *
  obtain ⟨qO, qA, qV, qF, qK, qXk, qXn, qXt, hxq⟩ := Ex.form q
  obtain ⟨qrO, qrA, qrV, qrF, qrK, qrXk, qrXn, qrXt, hxr⟩ := Ex.form qr
  rw [hxq] at hat hqc hq
  rw [hxr] at hq hqr hw2
  have hw3 : catA (dropA w 0) (partA [.agg [int qrO, .isl 8 qrA, int qrV, int qrF, int qrK, int qrXk, int qrXn, str qrXt]] 0 1) = mapE Ex.enc (Ex.rebL G (d ++ [q])) := by simp only [ee]; simpa using hw2
  have hm3 : addN m (lenN (partA [.agg [int qrO, .isl 8 qrA, int qrV, int qrF, int qrK, int qrXk, int qrXn, str qrXt]] 0 1)) = (catA (dropA w 0) (partA [.agg [int qrO, .isl 8 qrA, int qrV, int qrF, int qrK, int qrXk, int qrXn, str qrXt]] 0 1)).length := by simp only [ee]; simp [gm]
  have hc3 : AV.closedL (catA (dropA w 0) (partA [.agg [int qrO, .isl 8 qrA, int qrV, int qrF, int qrK, int qrXk, int qrXn, str qrXt]] 0 1)) = true := by rw [hw3]; exact Ex.closedL _
  refine goB hX 0 (by conv => lhs; cbv; try simp only [hc, hat]; cbv; try simp only [hc, hat]; cbv; try simp only [hc, hat]; cbv; try simp only [hc, hat]; cbv) ?_
  refine goB hX 1 (by conv => lhs; cbv; try simp only [hc, hat]; cbv; try simp only [hc, hat]; cbv; try simp only [hc, hat]; cbv; try simp only [hc, hat]; cbv) ?_
  refine tr_drawB rfl (by conv => lhs; cbv) rfl ?_
  refine tgA ?_
  refine oPT hq ?_
  refine tgA ?_
  refine tr_nil ⟨rfl, ?_, ?_⟩
  · simp only [LooksL, lookAll, List.cons_append, List.nil_append, List.append_nil]; and_intros <;> first | trivial | (intro hp; first | rfl | exact absurd (show false = true from hp) Bool.false_ne_true)
  refine goA 60 ?_
  refine loopP_next (d ++ [q], r, iAdd .i64 i 1, addN m (lenN (partA [.agg [int qrO, .isl 8 qrA, int qrV, int qrF, int qrK, int qrXk, int qrXn, str qrXt]] 0 1)), catA (dropA w 0) (partA [.agg [int qrO, .isl 8 qrA, int qrV, int qrF, int qrK, int qrXk, int qrXn, str qrXt]] 0 1)) ⟨by simp [g1], hi2, hm3, hw3⟩ (by simp) (ent_sub [.to 0, .to 1, .gone, .gone, .gone, .to 2] [some 0, some 1, some 5] ⟨⟨by simp, rfl⟩, ⟨by simp, rfl⟩, trivial, trivial, trivial, ⟨by simp, rfl⟩, trivial⟩ ⟨osrc_cells (b := 0) rfl rfl rfl ⟨.refl _, .refl _, .refl _, .refl _, .refl _, .refl _, .refl _, .refl _, trivial⟩, osrc_cells (b := 1) rfl rfl rfl ⟨.refl _, .refl _, .refl _, .refl _, .refl _, .refl _, .refl _, .refl _, trivial⟩, osrc_arr (b := 5) rfl rfl rfl rfl hc3, trivial⟩ ⟨.refl _, .refl _, .cl hcl, .cl hfn, .refl _, .refl _, trivial⟩)
theorem firstE_zero {α : Type} {F : α → Int} {l : List α} (h : firstE F l = 0) : ∀ q ∈ l, F q = 0 := by
 induction l with
 | nil => intro q hq; cases hq
 | cons x r ih =>
  intro q hq
  rw [firstE] at h
  by_cases hx : F x = 0
  · rw [if_neg (by simpa using hx)] at h
    rcases List.mem_cons.1 hq with rfl | hq
    · exact hx
    · exact ih h q hq
  · rw [if_pos hx] at h; exact absurd h hx
theorem Ex.nodeE_var {q : Ex} (h : q.nodeE = 0) : usesV q.op = true → 0 ≤ q.var ∧ q.var < 16 := by
 intro hu
 unfold Ex.nodeE at h
 by_cases h1 : arityB q.op = false
 · rw [if_pos h1] at h; cases h
 rw [if_neg h1] at h
 by_cases h2 : (q.args.length : Int) ≠ arityN q.op
 · rw [if_pos h2] at h; cases h
 rw [if_neg h2] at h
 by_cases h3 : (usesV q.op = true ∧ (q.var < 0 ∨ 16 ≤ q.var)) ∨ (usesF q.op = true ∧ (q.fld < 0 ∨ 8 ≤ q.fld))
 · rw [if_pos h3] at h; cases h
 · exact ⟨Int.not_lt.1 fun hh => h3 (.inl ⟨hu, .inl hh⟩), Int.not_le.1 fun hh => h3 (.inl ⟨hu, .inr hh⟩)⟩
theorem Ex.chk_nodes {e : Ex} (h : e.chk = 0) : ∀ q ∈ e.nodes, q.nodeE = 0 := by
 unfold Ex.chk at h
 split at h
 · cases h
 · split at h
   · cases h
   · exact firstE_zero h
noncomputable def Ex.renErr (to : List Int) (e : Ex) : Int := if e.chk ≠ 0 then e.chk else firstE (renE to) e.nodes
noncomputable def Ex.rename (to : List Int) (e : Ex) : Ex := if e.renErr to = 0 then e.reb (renG to) else Ex0
theorem Ex0.form : Ex0.enc = .agg [int 0, .isl 8 [], int 0, int 0, int 0, int 0, int 0, str ⟨#[]⟩] := by rw [Ex0, Ex.enc_mk, mapE_eq]; rfl
theorem P_expr_Rename (to : List Int) (e : Ex) (hs : e.Sm) : PCall EE 50 [e.enc, .isl 1 (mapE int to)] (.tup [(e.rename to).enc, int (e.renErr to)]) := by
 have h1 := P_expr_Check e hs
 have hct := closedI_int to
 have hcts := closedL_int to
 have hctL : AV.closedL [.isl 1 (mapE int to)] = true := closed1 hct
 have hip : (AV.iptr [.isl 1 (mapE int to)]).closed = true := by simp only [closed_iptr, AV.closedL, Bool.and_true]; exact hct
 have hipL : AV.closedL [AV.iptr [.isl 1 (mapE int to)]] = true := closed1 hip
 have h2 := fun hk : e.chk = 0 => P_expr_visit 68 [.iptr [.isl 1 (mapE int to)]] hipL (renE to) e hs fun q hq => P_ren1 to q fun hu => (Ex.nodeE_var (Ex.chk_nodes hk q hq) hu).1
 have h3 := fun (hk : e.chk = 0) (hr : firstE (renE to) e.nodes = 0) => P_rebuilt 71 [.iptr [.isl 1 (mapE int to)]] hipL (renG to) (fun o v => usesV o = true → 0 ≤ v ∧ v < to.length) (fun q hq => P_ren2 to q hq) e hs fun q hq hu => ⟨(Ex.nodeE_var (Ex.chk_nodes hk q hq) hu).1, by
  have := firstE_zero hr q hq
  unfold renE at this
  rw [if_neg (by simp [hu])] at this
  by_cases hl : (to.length : Int) ≤ q.var
  · rw [if_pos hl] at this; cases this
  · omega⟩
 have hcl := Ex.closed e
 obtain ⟨R, hR⟩ : ∃ R, R = e.rename to := ⟨_, rfl⟩
 obtain ⟨R2, hR2⟩ : ∃ R, R = e.renErr to := ⟨_, rfl⟩
 rw [← hR, ← hR2]
 unfold Ex.rename at hR
 rw [← hR2] at hR
 unfold Ex.renErr at hR2
 generalize e.reb (renG to) = er at *
 generalize e.chk = ck at *
 generalize firstE (renE to) e.nodes = fe at *
 have hec := Ex.closed er
 obtain ⟨eO, eA, eV, eF, eK, eXk, eXn, eXt, hx⟩ := Ex.form e
 rw [hx] at h1 h2 h3 hcl ⊢
 have heA : (AV.isl 8 eA).closed = true := by have := hcl; simp [AV.closed, AV.closedL] at this ⊢; exact this
 refine wordsN ?_; unhygienic intros
 generalize mapE int to = ts at *
 refine fn_body (fn := Tryd.f50) (n := 24) (ac := Trydc50) (rvs := [.cell 4 8 true, .t 5]) rfl (by decide) Trydp50 rfl rfl rfl ?_
 by_cases g1 : ck = 0
 rotate_left
 · have k1 : iNe ck 0 = true := by simp only [ee]; simpa using g1
   rw [if_pos g1] at hR2
   rw [if_neg (by omega)] at hR
   rw [hR, hR2, Ex0.form]
   refine goA 60 ?_
   refine oPA h1 ?_
   refine goB hX 0 (by conv => lhs; cbv; try simp only [k1]; cbv; try simp only [k1]; cbv; try simp only [k1]; cbv; try simp only [k1]; cbv) ?_
   refine goA 60 ?_
   refine fn_ret rfl rfl ?_
   exact ⟨[.gone, .gone, .gone], ⟨trivial, trivial, trivial, trivial⟩, .tup' ⟨.agg' ⟨.refl _, .nilI _, .refl _, .refl _, .refl _, .refl _, .refl _, .refl _, trivial⟩, .refl _, trivial⟩⟩
 have k1 : iNe ck 0 = false := by simp only [ee]; simpa using g1
 rw [if_neg (by simpa using g1)] at hR2
 have h2 := h2 g1
 have h3 := h3 g1
 by_cases g2 : fe = 0
 rotate_left
 · have k2 : iNe fe 0 = true := by simp only [ee]; simpa using g2
   rw [if_neg (by omega)] at hR
   rw [hR, hR2, Ex0.form]
   refine goB hX 0 (by conv => lhs; cbv; try simp only [k1]; cbv; try simp only [k1]; cbv; try simp only [k1]; cbv; try simp only [k1]; cbv) ?_
   refine oPA h1 ?_
   refine goB hX 1 (by conv => lhs; cbv; try simp only [k1]; cbv; try simp only [k1]; cbv; try simp only [k1]; cbv; try simp only [k1]; cbv) ?_
   refine goB hX 1 (by conv => lhs; cbv; try simp only [k1]; cbv; try simp only [k1]; cbv; try simp only [k1]; cbv; try simp only [k1]; cbv) ?_
   refine on_entO (F' := [(14, .agg [int eO, .isl 8 eA, int eV, int eF, int eK, int eXk, int eXn, str eXt]), (15, .fn 68 [.iptr [.isl 1 ts]]), (4, .ptr 0 0)]) (H' := [.cells [int 0, .val (.slice none 0 0), int 0, int 0, int 0, int 0, int 0, str ⟨#[]⟩]]) ?_ ?_
   · exact (ent_sub [.gone, .icells ([AV.isl 1 ts]), .to 0] [some 2] ⟨trivial, ⟨_, rfl, (subL_closed _ hctL).symm⟩, ⟨by simp, rfl⟩, trivial⟩ ⟨osrc_cells (b := 2) rfl rfl rfl ⟨.refl _, .refl _, .refl _, .refl _, .refl _, .refl _, .refl _, .refl _, trivial⟩, trivial⟩ ⟨.cl hcl, .refl _, .refl _, trivial⟩)
   refine oPA h2 ?_
   refine goB hX 0 (by conv => lhs; cbv; try simp only [k2]; cbv; try simp only [k2]; cbv; try simp only [k2]; cbv; try simp only [k2]; cbv) ?_
   refine goA 60 ?_
   refine fn_ret rfl rfl ?_
   exact ⟨[.gone], ⟨trivial, trivial⟩, .tup' ⟨.agg' ⟨.refl _, .nilI _, .refl _, .refl _, .refl _, .refl _, .refl _, .refl _, trivial⟩, .refl _, trivial⟩⟩
 have k2 : iNe fe 0 = false := by simp only [ee]; simpa using g2
 have h3 := h3 g2
 rw [if_pos (by omega)] at hR
 rw [hR, hR2, g2]
 obtain ⟨erO, erA, erV, erF, erK, erXk, erXn, erXt, hxr⟩ := Ex.form er
 rw [hxr] at h3 hec ⊢
 refine goB hX 0 (by conv => lhs; cbv; try simp only [k1]; cbv; try simp only [k1]; cbv; try simp only [k1]; cbv; try simp only [k1]; cbv) ?_
 refine oPA h1 ?_
 refine goB hX 1 (by conv => lhs; cbv; try simp only [k1]; cbv; try simp only [k1]; cbv; try simp only [k1]; cbv; try simp only [k1]; cbv) ?_
 refine goB hX 1 (by conv => lhs; cbv; try simp only [k1]; cbv; try simp only [k1]; cbv; try simp only [k1]; cbv; try simp only [k1]; cbv) ?_
 refine on_entO (F' := [(14, .agg [int eO, .isl 8 eA, int eV, int eF, int eK, int eXk, int eXn, str eXt]), (15, .fn 68 [.iptr [.isl 1 ts]]), (3, .iptr [.isl 1 ts]), (4, .ptr 0 0), (2, .ptr 1 0)]) (H' := [.cells [int 0, .val (.slice none 0 0), int 0, int 0, int 0, int 0, int 0, str ⟨#[]⟩], .cells [int eO, .isl 8 eA, int eV, int eF, int eK, int eXk, int eXn, str eXt]]) ?_ ?_
 · exact (ent_sub [.to 1, .icells ([AV.isl 1 ts]), .to 0] [some 2, some 0] ⟨⟨by simp, rfl⟩, ⟨_, rfl, (subL_closed _ hctL).symm⟩, ⟨by simp, rfl⟩, trivial⟩ ⟨osrc_cells (b := 2) rfl rfl rfl ⟨.refl _, .refl _, .refl _, .refl _, .refl _, .refl _, .refl _, .refl _, trivial⟩, osrc_cells (b := 0) rfl rfl rfl ⟨.refl _, .cl heA, .refl _, .refl _, .refl _, .refl _, .refl _, .refl _, trivial⟩, trivial⟩ ⟨.cl hcl, .refl _, .refl _, .refl _, .refl _, trivial⟩)
 refine oPA h2 ?_
 refine goB hX 0 (by conv => lhs; cbv; try simp only [k2]; cbv; try simp only [k2]; cbv; try simp only [k2]; cbv; try simp only [k2]; cbv) ?_
 refine goA 60 ?_
 refine oPA h3 ?_
 refine goA 60 ?_
 refine fn_ret rfl rfl ?_
 exact ⟨[.gone, .gone], ⟨trivial, trivial, trivial⟩, .tup' ⟨.cl hec, .refl _, trivial⟩⟩
theorem Ex.reb_mk (to : List Int) (o a v f k x) : (Ex.mk o a v f k x).reb (renG to) = .mk o (Ex.rebL (renG to) a) (if usesV o then to.getD v.toNat 0 else v) f k x := by
 rw [Ex.reb, renG]
 simp only [Ex.op, Ex.args, Ex.var, Ex.fld, Ex.kind, Ex.val]
 split <;> simp_all
theorem P_ref08_nodes : ∀ e : Ex, e.Sm → PCall EE 31 [e.enc] (int (firstE Ex.nodeE e.nodes)) := by
 refine Ex.ind ?_
 intro o a v f k x ih hs
 have hlen := hs.len
 have hih : ∀ q ∈ a, PCall EE 31 [q.enc] (int (firstE Ex.nodeE q.nodes)) := fun q hq => ih q hq (hs.arg hq)
 have hcl := Ex.closedI a
 have hh := P_ref08_node (.mk o a v f k x) (by exact hlen)
 have hpc := Ex.closed (.mk o a v f k x)
 rw [Ex.nodes]
 obtain ⟨R, hR⟩ : ∃ R, R = firstE Ex.nodeE (Ex.mk o a v f k x :: Ex.nodesL a) := ⟨_, rfl⟩
 rw [← hR]
 rw [firstE] at hR
 obtain ⟨xk, xn, xt⟩ := x
 rw [Ex.enc_mk] at hpc hh ⊢
 dsimp only at hpc hh ⊢
 clear ih hs
 refine wordsN ?_; unhygienic intros
 generalize hes : mapE Ex.enc a = es at *
 have hel : es.length = a.length := by rw [← hes, mapE_len]
 generalize (Ex.mk o a v f k { kind := xk, num := xn, text := xt }).nodeE = fp at *
 refine fn_body (fn := Tryd.f31) (n := 27) (ac := Trydc31) (rvs := [.t 2]) rfl (by decide) Trydp31 rfl rfl rfl ?_
 by_cases h1 : fp = 0
 rotate_left
 · have w1 : iNe fp 0 = true := by simp only [ee]; simpa using h1
   have hR : R = fp := by rw [hR, if_pos h1]
   refine goA 60 ?_
   refine oPA hh ?_
   refine goB hX 0 (by conv => lhs; cbv; try simp only [w1]; cbv; try simp only [w1]; cbv; try simp only [w1]; cbv; try simp only [w1]; cbv) ?_
   refine goA 60 ?_
   refine fn_ret rfl rfl (.val ?_)
   exact congrArg (Value.int .i64) hR.symm
 have w1 : iNe fp 0 = false := by simp only [ee]; simpa using h1
 have hR : R = firstE Ex.nodeE (Ex.nodesL a) := by rw [hR, if_neg (by simpa using h1)]
 refine goA 60 ?_
 refine oPA hh ?_
 refine goB hX 0 (by conv => lhs; cbv; try simp only [w1]; cbv; try simp only [w1]; cbv; try simp only [w1]; cbv; try simp only [w1]; cbv) ?_
 refine goA 60 ?_
 refine on_loopP (ι := List Ex × List Ex × Int) (fun p => ([(4, int p.2.2), (1, .ptr 0 0)], [.cells [int o, .isl 8 es, int v, int f, int k, int xk, int xn, str xt]])) (fun p => a = p.1 ++ p.2.1 ∧ p.2.2 = p.1.length ∧ R = firstE Ex.nodeE (Ex.nodesL p.2.1)) (fun p => p.2.1.length) ([], a, 0) ⟨rfl, rfl, hR⟩ ?_ ?_
 · exact (ent_sub [.to 0] [some 0] ⟨⟨by simp, rfl⟩, trivial⟩ ⟨osrc_cells (b := 0) rfl rfl rfl ⟨.refl _, .cl hcl, .refl _, .refl _, .refl _, .refl _, .refl _, .refl _, trivial⟩, trivial⟩ ⟨.refl _, .refl _, trivial⟩)
 rintro ⟨d, r, i⟩ ⟨g1, gi, gR⟩
 dsimp only at g1 gi gR ⊢
 cases r with
 | nil =>
  have L1 := len_split g1
  try simp only [List.length] at L1
  have hc : iLt i (lenA es) = false := lt_f e_iLt e_lenA (by omega)
  have gR : R = 0 := gR
  refine goB hX 0 (by conv => lhs; cbv; try simp only [hc]; cbv; try simp only [hc]; cbv; try simp only [hc]; cbv; try simp only [hc]; cbv) ?_
  refine goA 60 ?_
  refine loopP_exit ?_
  refine goA 60 ?_
  refine fn_ret rfl rfl (.val ?_)
  exact congrArg (Value.int .i64) gR.symm
 | cons q r =>
  have L1 := len_split g1
  try simp only [List.length] at L1
  have hc : iLt i (lenA es) = true := lt_t e_iLt e_lenA (by omega)
  have hat := el_at e_atA hes g1 gi
  have hq := hih q (by rw [g1]; simp)
  have hqc := Ex.closed q
  rw [Ex.nodesL, firstE_append] at gR
  obtain ⟨qO, qA, qV, qF, qK, qXk, qXn, qXt, hx⟩ := Ex.form q
  rw [hx] at hat hqc hq
  have hi2 : iAdd .i64 i 1 = ((d ++ [q]).length : Int) := by rw [List.length_append]; exact inc_w e_iAdd gi (by omega)
  generalize firstE Ex.nodeE q.nodes = fq at *
  by_cases h2 : fq = 0
  · have w2 : iNe fq 0 = false := by simp only [ee]; simpa using h2
    rw [if_neg (by simpa using h2)] at gR
    refine goB hX 0 (by conv => lhs; cbv; try simp only [hc, hat, w2]; cbv; try simp only [hc, hat, w2]; cbv; try simp only [hc, hat, w2]; cbv; try simp only [hc, hat, w2]; cbv) ?_
    refine goB hX 1 (by conv => lhs; cbv; try simp only [hc, hat, w2]; cbv; try simp only [hc, hat, w2]; cbv; try simp only [hc, hat, w2]; cbv; try simp only [hc, hat, w2]; cbv) ?_
    refine oPA hq ?_
    refine goB hX 0 (by conv => lhs; cbv; try simp only [hc, hat, w2]; cbv; try simp only [hc, hat, w2]; cbv; try simp only [hc, hat, w2]; cbv; try simp only [hc, hat, w2]; cbv) ?_
    refine goA 60 ?_
    refine loopP_next (d ++ [q], r, iAdd .i64 i 1) ⟨by simp [g1], hi2, gR⟩ (by simp) (ent_sub [.to 0] [some 0] ⟨⟨by simp, rfl⟩, trivial⟩ ⟨osrc_cells (b := 0) rfl rfl rfl ⟨.refl _, .cl hcl, .refl _, .refl _, .refl _, .refl _, .refl _, .refl _, trivial⟩, trivial⟩ ⟨.refl _, .refl _, trivial⟩)
  · have w2 : iNe fq 0 = true := by simp only [ee]; simpa using h2
    rw [if_pos h2] at gR
    refine goB hX 0 (by conv => lhs; cbv; try simp only [hc, hat, w2]; cbv; try simp only [hc, hat, w2]; cbv; try simp only [hc, hat, w2]; cbv; try simp only [hc, hat, w2]; cbv) ?_
    refine goB hX 1 (by conv => lhs; cbv; try simp only [hc, hat, w2]; cbv; try simp only [hc, hat, w2]; cbv; try simp only [hc, hat, w2]; cbv; try simp only [hc, hat, w2]; cbv) ?_
    refine oPA hq ?_
    refine goB hX 0 (by conv => lhs; cbv; try simp only [hc, hat, w2]; cbv; try simp only [hc, hat, w2]; cbv; try simp only [hc, hat, w2]; cbv; try simp only [hc, hat, w2]; cbv) ?_
    refine goA 60 ?_
    refine loopP_ret ?_
    refine goA 60 ?_
    refine fn_ret rfl rfl (.val ?_)
    exact congrArg (Value.int .i64) gR.symm
theorem P_ref08_Check (e : Ex) (hs : e.Sm) : PCall EE 10 [e.enc] (int e.chk) := by
 have h1 := P_ref08_Count 64 (by decide) e hs
 have h2 := P_ref08_Depth e hs
 have h3 := P_ref08_nodes e hs
 have htot := Ex.tot_iff e 64
 have hcl := Ex.closed e
 obtain ⟨R, hR⟩ : ∃ R, R = e.chk := ⟨_, rfl⟩
 rw [← hR]
 unfold Ex.chk at hR
 obtain ⟨tt, htt⟩ : ∃ z : Int, z = e.tot 64 := ⟨_, rfl⟩
 obtain ⟨dp, hdp⟩ : ∃ z : Int, z = e.dep := ⟨_, rfl⟩
 rw [← htt] at h1
 rw [← hdp] at h2
 generalize firstE Ex.nodeE e.nodes = fe at *
 obtain ⟨eO, eA, eV, eF, eK, eXk, eXn, eXt, hx⟩ := Ex.form e
 rw [hx] at h1 h2 h3 hcl ⊢
 refine wordsN ?_; unhygienic intros
 refine fn_body (fn := Tryd.f10) (n := 11) (ac := Trydc10) (rvs := [.t 2]) rfl (by decide) Trydp10 rfl rfl rfl ?_
 by_cases g1 : tt ≤ 64
 rotate_left
 · have k1 : iLt 64 tt = true := by simp only [ee]; simp; omega
   rw [if_pos (by omega)] at hR
   refine goA 60 ?_
   refine oPA h1 ?_
   refine goB hX 0 (by conv => lhs; cbv; try simp only [k1]; cbv; try simp only [k1]; cbv; try simp only [k1]; cbv; try simp only [k1]; cbv) ?_
   refine goA 60 ?_
   refine fn_ret rfl rfl (.val ?_)
   exact congrArg (Value.int .i64) hR.symm
 have k1 : iLt 64 tt = false := by simp only [ee]; simp; omega
 rw [if_neg (by omega)] at hR
 by_cases g2 : dp ≤ 12
 rotate_left
 · have k2 : iLt 12 dp = true := by simp only [ee]; simp; omega
   rw [if_pos (by omega)] at hR
   refine goA 60 ?_
   refine oPA h1 ?_
   refine goB hX 0 (by conv => lhs; cbv; try simp only [k1, k2]; cbv; try simp only [k1, k2]; cbv; try simp only [k1, k2]; cbv; try simp only [k1, k2]; cbv) ?_
   refine goA 60 ?_
   refine oPA h2 ?_
   refine goB hX 0 (by conv => lhs; cbv; try simp only [k1, k2]; cbv; try simp only [k1, k2]; cbv; try simp only [k1, k2]; cbv; try simp only [k1, k2]; cbv) ?_
   refine goA 60 ?_
   refine fn_ret rfl rfl (.val ?_)
   exact congrArg (Value.int .i64) hR.symm
 have k2 : iLt 12 dp = false := by simp only [ee]; simp; omega
 rw [if_neg (by omega)] at hR
 refine goA 60 ?_
 refine oPA h1 ?_
 refine goB hX 0 (by conv => lhs; cbv; try simp only [k1, k2]; cbv; try simp only [k1, k2]; cbv; try simp only [k1, k2]; cbv; try simp only [k1, k2]; cbv) ?_
 refine goA 60 ?_
 refine oPA h2 ?_
 refine goB hX 0 (by conv => lhs; cbv; try simp only [k1, k2]; cbv; try simp only [k1, k2]; cbv; try simp only [k1, k2]; cbv; try simp only [k1, k2]; cbv) ?_
 refine goA 60 ?_
 refine oPA h3 ?_
 refine goA 60 ?_
 refine fn_ret rfl rfl (.val ?_)
 exact congrArg (Value.int .i64) hR.symm
theorem Pat.enc_c (o a t v s n) {c : Ex} {cs : List AV} (h : c.enc = .agg cs) : (Pat.mk o a t v s n c).enc = .agg ([int o, .isl 14 (mapE Pat.enc a), int t, int v, int s, int n] ++ cs) := by
 obtain ⟨co, ca, cv, cf, ck, cx⟩ := c
 rw [Ex.enc_mk] at h
 injection h with h
 rw [Pat.enc_mk, ← h]; rfl
theorem P_ref09_Nodes : ∀ p : Pat, p.Sm → PCall EE 17 [p.enc] (.isl 14 (mapE Pat.enc p.nodes)) := by
 refine Pat.ind ?_
 intro o a t v s n c ih hs
 obtain ⟨pp, hpp⟩ : ∃ pp, pp = Pat.mk o a t v s n c := ⟨_, rfl⟩
 have hpe : pp.enc = (Pat.mk o a t v s n c).enc := by rw [hpp]
 obtain ⟨co, ca, cv, cf, ck, xk, xn, xt⟩ := c
 have hlen := hs.len
 have hih : ∀ q ∈ a, PCall EE 17 [q.enc] (.isl 14 (mapE Pat.enc q.nodes)) := fun q hq => ih q hq (hs.arg hq)
 have hcl := Pat.closedI a
 have hce := Ex.closedI ca
 have hcnt : Pat.cntL a ≤ 1048575 := by have hs := hs.1; simp only [Pat.cnt] at hs; omega
 simp only [Pat.nodes]
 rw [← hpp]
 rw [Pat.enc_mk] at hpe
 clear hpp
 have hpc := Pat.closed pp
 rw [hpe] at hpc ⊢
 refine wordsN ?_; unhygienic intros
 generalize hes : mapE Pat.enc a = es at *
 generalize mapE Ex.enc ca = ec at *
 have hel : es.length = a.length := by rw [← hes, mapE_len]
 have hone : ∀ x, AV.closedL [x] = x.closed := by simp [AV.closedL]
 have hw0 : [AV.agg [int o, .isl 14 es, int t, int v, int s, int n, int co, .isl 8 ec, int cv, int cf, int ck, int xk, int xn, str xt]] = mapE Pat.enc (pp :: Pat.nodesL []) := by rw [mapE_eq, Pat.nodesL, List.map_cons, hpe]; rfl
 have hcw0 : AV.closedL [AV.agg [int o, .isl 14 es, int t, int v, int s, int n, int co, .isl 8 ec, int cv, int cf, int ck, int xk, int xn, str xt]] = true := by rw [hone]; exact hpc
 refine fn_body (fn := Tryd.f17) (n := 23) (ac := Trydc17) (rvs := [.t 2]) rfl (by decide) Trydp17 rfl rfl rfl ?_
 refine goA 60 ?_
 refine on_loopP (ι := List Pat × List Pat × Int × Nat × List AV) (fun p => ([(3, .sl 1 14 0 p.2.2.2.1), (4, int p.2.2.1), (1, .ptr 0 0)], [.cells [int o, .isl 14 es, int t, int v, int s, int n, int co, .isl 8 ec, int cv, int cf, int ck, int xk, int xn, str xt], .arr 14 p.2.2.2.2])) (fun p => a = p.1 ++ p.2.1 ∧ p.2.2.1 = p.1.length ∧ p.2.2.2.1 = p.2.2.2.2.length ∧ p.2.2.2.2 = mapE Pat.enc (pp :: Pat.nodesL p.1)) (fun p => p.2.1.length) ([], a, 0, 1, [AV.agg [int o, .isl 14 es, int t, int v, int s, int n, int co, .isl 8 ec, int cv, int cf, int ck, int xk, int xn, str xt]]) ⟨rfl, rfl, rfl, hw0⟩ ?_ ?_
 · exact (ent_sub [.to 0, .to 1] [some 0, some 1] ⟨⟨by simp, rfl⟩, ⟨by simp, rfl⟩, trivial⟩ ⟨osrc_cells (b := 0) rfl rfl rfl ⟨.refl _, .cl hcl, .refl _, .refl _, .refl _, .refl _, .refl _, .cl hce, .refl _, .refl _, .refl _, .refl _, .refl _, .refl _, trivial⟩, osrc_arr (b := 1) rfl rfl rfl rfl hcw0, trivial⟩ ⟨.refl _, .refl _, .refl _, trivial⟩)
 rintro ⟨d, r, i, m, w⟩ ⟨g1, gi, gm, gw⟩
 dsimp only at g1 gi gm gw ⊢
 have hcw : AV.closedL w = true := by rw [gw]; exact Pat.closedL _
 have hm : m = Pat.cntL d + 1 := by rw [gm, gw, mapE_len, List.length_cons, Pat.nodesL_len']
 cases r with
 | nil =>
  have L1 := len_split g1
  try simp only [List.length] at L1
  have hc : iLt i (lenA es) = false := lt_f e_iLt e_lenA (by omega)
  rw [List.append_nil] at g1
  rw [g1, ← gw]
  refine goB hX 0 (by conv => lhs; cbv; try simp only [hc]; cbv; try simp only [hc]; cbv; try simp only [hc]; cbv; try simp only [hc]; cbv) ?_
  refine goA 60 ?_
  refine loopP_exit ?_
  refine goA 60 ?_
  refine fn_ret rfl rfl ?_
  exact ⟨[.gone, .isl 14 (w)], ⟨trivial, ⟨_, rfl, (subL_closed _ hcw).symm⟩, trivial⟩, .of (sub_whole rfl (by omega))⟩
 | cons q r =>
  have L1 := len_split g1
  try simp only [List.length] at L1
  have hc : iLt i (lenA es) = true := lt_t e_iLt e_lenA (by omega)
  have hat := el_at e_atA hes g1 gi
  have hq := hih q (by rw [g1]; simp)
  have hqc := Pat.closed q
  rw [g1, Pat.cntL_append, Pat.cntL] at hcnt
  have hfit := fitPat q.nodes
  have hcq := Pat.closedL q.nodes
  have hql : (mapE Pat.enc q.nodes).length = q.cnt := by rw [mapE_len, Pat.nodes_len]
  obtain ⟨qO, qA, qT, qV, qS, qN, qCo, qCa, qCv, qCf, qCk, qXk, qXn, qXt, hx⟩ := Pat.form q
  rw [hx] at hq hat hqc
  have hw2 : catA (dropA w 0) (mapE Pat.enc q.nodes) = mapE Pat.enc (pp :: Pat.nodesL (d ++ [q])) := by
   simp only [ee]; rw [gw, List.drop_zero, mapE_eq, mapE_eq, mapE_eq, ← List.map_append, Pat.nodesL_append]; simp [Pat.nodesL]
  generalize mapE Pat.enc q.nodes = eq at *
  have hi2 : iAdd .i64 i 1 = ((d ++ [q]).length : Int) := by rw [List.length_append]; exact inc_w e_iAdd gi (by omega)
  have hm2 : addN m (lenN eq) = (catA (dropA w 0) eq).length := by simp only [ee]; simp [gm]
  have hcw2 : AV.closedL (catA (dropA w 0) eq) = true := by rw [hw2]; exact Pat.closedL _
  refine goB hX 0 (by conv => lhs; cbv; try simp only [hc, hat]; cbv; try simp only [hc, hat]; cbv; try simp only [hc, hat]; cbv; try simp only [hc, hat]; cbv) ?_
  refine goB hX 1 (by conv => lhs; cbv; try simp only [hc, hat]; cbv; try simp only [hc, hat]; cbv; try simp only [hc, hat]; cbv; try simp only [hc, hat]; cbv) ?_
  refine oPA hq ?_
  refine goA 60 ?_
  refine loopP_next (d ++ [q], r, iAdd .i64 i 1, addN m (lenN eq), catA (dropA w 0) eq) ⟨by simp [g1], hi2, hm2, hw2⟩ (by simp) (ent_sub [.to 0, .gone, .to 1] [some 0, some 2] ⟨⟨by simp, rfl⟩, trivial, ⟨by simp, rfl⟩, trivial⟩ ⟨osrc_cells (b := 0) rfl rfl rfl ⟨.refl _, .cl hcl, .refl _, .refl _, .refl _, .refl _, .refl _, .cl hce, .refl _, .refl _, .refl _, .refl _, .refl _, .refl _, trivial⟩, osrc_arr (b := 2) rfl rfl rfl rfl hcw2, trivial⟩ ⟨.refl _, .refl _, .refl _, trivial⟩)
theorem wholeE_ok {p : Pat} (h : p.wholeE = 0) : p.chkR = 0 ∧ (∀ q ∈ p.nodes, q.nodeE = 0) ∧ ∀ q ∈ p.nodes, q.op < 8 := by
 unfold Pat.wholeE at h
 by_cases h1 : p.chkR = 0
 · rw [if_neg (by simpa using h1)] at h
   have fe : ∀ {F : Pat → Int} {l : List Pat}, firstE F l = 0 → ∀ q ∈ l, F q = 0 := by
    intro F l
    induction l with
    | nil => intro _ q hq; cases hq
    | cons x r ih =>
     intro hf q hq
     rw [firstE] at hf
     by_cases hx : F x = 0
     · rw [if_neg (by simpa using hx)] at hf
       rcases List.mem_cons.1 hq with rfl | hq
       · exact hx
       · exact ih hf q hq
     · rw [if_pos hx] at hf; exact absurd hf hx
   refine ⟨h1, ?_, fun q hq => ?_⟩
   · unfold Pat.chkR at h1
     split at h1
     · cases h1
     · split at h1
       · cases h1
       · exact fe h1
   · have := fe h q hq
     by_cases h8 : 8 ≤ q.op
     · simp [h8] at this
     · omega
 · rw [if_pos h1] at h; exact absurd h h1
theorem nodeE_op {q : Pat} (h : q.nodeE = 0) : 0 ≤ q.op ∧ q.op < 11 := by
 unfold Pat.nodeE at h
 by_cases h1 : q.op < 0 ∨ 11 ≤ q.op
 · rw [if_pos h1] at h; cases h
 · omega
noncomputable def Pat.chk (p : Pat) : Int := if p.wholeE ≠ 0 then p.wholeE else if (cfold p.nodes).2.2 = true then 0 else 14
theorem P_pattern_Check (p : Pat) (hs : p.Sm) : PCall EE 14 [p.enc] (int p.chk) := by
 have h1 := P_whole p hs
 have h2 := fun h : p.wholeE = 0 => P_count p hs fun q hq => nodeE_op ((wholeE_ok h).2.1 q hq)
 have hcl := Pat.closed p
 obtain ⟨R, hR⟩ : ∃ R, R = p.chk := ⟨_, rfl⟩
 rw [← hR]
 unfold Pat.chk at hR
 generalize p.wholeE = rn at *
 generalize (cfold p.nodes).1 = c1 at *
 generalize (cfold p.nodes).2.1 = c2 at *
 generalize (cfold p.nodes).2.2 = c3 at *
 obtain ⟨pO, pA, pT, pV, pS, pN, pCo, pCa, pCv, pCf, pCk, pXk, pXn, pXt, hx⟩ := Pat.form p
 rw [hx] at h1 h2 hcl ⊢
 refine wordsN ?_; unhygienic intros
 refine fn_body (fn := Tryd.f14) (n := 20) (ac := Trydc14) (rvs := [.t 2]) rfl (by decide) Trydp14 rfl rfl rfl ?_
 by_cases g1 : rn = 0
 rotate_left
 · have k1 : iNe rn 0 = true := by simp only [ee]; simpa using g1
   rw [if_pos g1] at hR
   refine goA 60 ?_
   refine oPA h1 ?_
   refine goB hX 0 (by conv => lhs; cbv; try simp only [k1]; cbv; try simp only [k1]; cbv; try simp only [k1]; cbv; try simp only [k1]; cbv) ?_
   refine goA 60 ?_
   refine fn_ret rfl rfl (.val ?_)
   exact congrArg (Value.int .i64) hR.symm
 have k1 : iNe rn 0 = false := by simp only [ee]; simpa using g1
 have h2 := h2 g1
 rw [if_neg (by simpa using g1)] at hR
 cases c3 with
 | true =>
  have k2 : bNot true = false := by simp only [ee]; rfl
  refine goA 60 ?_
  refine oPA h1 ?_
  refine goB hX 0 (by conv => lhs; cbv; try simp only [k1, k2]; cbv; try simp only [k1, k2]; cbv; try simp only [k1, k2]; cbv; try simp only [k1, k2]; cbv) ?_
  refine goA 60 ?_
  refine oPA h2 ?_
  refine goB hX 0 (by conv => lhs; cbv; try simp only [k1, k2]; cbv; try simp only [k1, k2]; cbv; try simp only [k1, k2]; cbv; try simp only [k1, k2]; cbv) ?_
  refine goA 60 ?_
  refine fn_ret rfl rfl (.val ?_)
  exact congrArg (Value.int .i64) hR.symm
 | false =>
  have k2 : bNot false = true := by simp only [ee]; rfl
  refine goA 60 ?_
  refine oPA h1 ?_
  refine goB hX 0 (by conv => lhs; cbv; try simp only [k1, k2]; cbv; try simp only [k1, k2]; cbv; try simp only [k1, k2]; cbv; try simp only [k1, k2]; cbv) ?_
  refine goA 60 ?_
  refine oPA h2 ?_
  refine goB hX 0 (by conv => lhs; cbv; try simp only [k1, k2]; cbv; try simp only [k1, k2]; cbv; try simp only [k1, k2]; cbv; try simp only [k1, k2]; cbv) ?_
  refine goA 60 ?_
  refine fn_ret rfl rfl (.val ?_)
  exact congrArg (Value.int .i64) hR.symm
def Pat0 : Pat := .mk 0 [] 0 0 0 0 Ex0
theorem Pat0.enc_eq : Pat0.enc = .agg [int 0, .isl 14 [], int 0, int 0, int 0, int 0, int 0, .isl 8 [], int 0, int 0, int 0, int 0, int 0, str ⟨#[]⟩] := by
 rw [Pat0, Ex0, Pat.enc_mk, mapE_eq, mapE_eq]; rfl
def Pat.nodeAt (p : Pat) (i : Int) : Pat := if 0 ≤ i ∧ i < p.nodes.length then p.nodes.getD i.toNat Pat0 else Pat0
mutual
noncomputable def Pat.ren (to : List Int) : Pat → Pat
 | .mk o a t v s n c => .mk o (Pat.renL to a) t (if typedF o then to.getD v.toNat 0 else v) s n (if condF o then c.rename to else c)
noncomputable def Pat.renL (to : List Int) : List Pat → List Pat
 | [] => []
 | e :: r => e.ren to :: Pat.renL to r
end
theorem Pat.renL_append (to : List Int) (a b : List Pat) : Pat.renL to (a ++ b) = Pat.renL to a ++ Pat.renL to b := by
 induction a with
 | nil => rw [Pat.renL]; rfl
 | cons x r ih => rw [List.cons_append, Pat.renL, Pat.renL, ih]; rfl
theorem Pat.renL_len (to : List Int) (a : List Pat) : (Pat.renL to a).length = a.length := by
 induction a with
 | nil => rw [Pat.renL]
 | cons x r ih => rw [Pat.renL]; simp [ih]
def Pat.renOk (to : List Int) (q : Pat) : Prop := 0 ≤ q.op ∧ q.op < 11 ∧ (typedF q.op = true → 0 ≤ q.var ∧ q.var < to.length)
theorem fill_next {w : List AV} {d r : List AV} {x y z : AV} {j : Nat} (hw : w = d ++ List.replicate (r.length + 1) z) (hj : j = d.length) : w.set j y = (d ++ [y]) ++ List.replicate r.length z := by
 subst hw hj
 rw [List.set_append_right _ _ (Nat.le_refl _), Nat.sub_self, List.replicate_succ]
 simp
theorem P_renamed (to : List Int) : ∀ p : Pat, p.Sm → (∀ q ∈ p.nodes, q.renOk to) → PCall EE 51 [p.enc, .isl 1 (mapE int to)] (p.ren to).enc := by
 refine Pat.ind ?_
 intro o a t v s n c ih hs hF
 have hlen := hs.len
 have hih : ∀ q ∈ a, PCall EE 51 [q.enc, .isl 1 (mapE int to)] (q.ren to).enc := fun q hq => ih q hq (hs.arg hq) fun q2 hq2 => hF q2 (by
  rw [Pat.nodes]
  obtain ⟨d, r, rfl⟩ := List.append_of_mem hq
  simp [Pat.nodesL_append, Pat.nodesL, hq2])
 obtain ⟨ho0, ho1, hov⟩ := hF (.mk o a t v s n c) (by rw [Pat.nodes]; simp)
 simp only [Pat.op, Pat.var] at ho0 ho1 hov
 have hrow := shape_row ho0 ho1
 have hrn := P_expr_Rename to c hs.cond
 generalize c.renErr to = rne at hrn
 have hcl := Pat.closedI a
 have hct := closedI_int to
 have hcts := closedL_int to
 rw [Pat.ren]
 obtain ⟨nv, hnv⟩ : ∃ z, z = (if typedF o then to.getD v.toNat 0 else v) := ⟨_, rfl⟩
 obtain ⟨nc, hnc⟩ : ∃ z, z = (if condF o then c.rename to else c) := ⟨_, rfl⟩
 rw [← hnv, ← hnc]
 have hncc := Ex.closed nc
 have hccc := Ex.closed c
 have hrc := Ex.closed (c.rename to)
 have hnv1 : typedF o = true → nv = to.getD v.toNat 0 := fun h => by rw [hnv, if_pos h]
 have hnv2 : typedF o = false → nv = v := fun h => by rw [hnv, if_neg (by simp [h])]
 have hnc1 : condF o = true → c.rename to = nc := fun h => by rw [hnc, if_pos h]
 have hnc2 : condF o = false → c = nc := fun h => by rw [hnc, if_neg (by simp [h])]
 generalize c.rename to = cr at *
 clear hnv hnc ih hF
 obtain ⟨ncO, ncA, ncV, ncF, ncK, ncXk, ncXn, ncXt⟩ := nc
 obtain ⟨co, ca, cv, cf, ck, xk, xn, xt⟩ := c
 rw [Pat.enc_mk, Pat.enc_mk]
 have hrle : (mapE Pat.enc (Pat.renL to a)).length = a.length := by rw [mapE_len, Pat.renL_len]
 have hnil : mapE Pat.enc [] = [] := by rw [mapE_eq]; rfl
 have hfin := Pat.closedL (Pat.renL to a)
 obtain ⟨F, hFin⟩ : ∃ F, F = mapE Pat.enc (Pat.renL to a) := ⟨_, rfl⟩
 rw [← hFin] at hrle hfin ⊢
 have hncI : (AV.isl 8 (mapE Ex.enc ncA)).closed = true := Ex.closedI ncA
 have hcaI : (AV.isl 8 (mapE Ex.enc ca)).closed = true := Ex.closedI ca
 rw [Ex.enc_mk] at hrn hncc hccc
 dsimp only at hrn hncc hccc ⊢
 refine wordsN ?_; unhygienic intros
 generalize hes : mapE Pat.enc a = es at *
 generalize hec : mapE Ex.enc ca = eca at *
 generalize hea : mapE Ex.enc ncA = encA' at *
 generalize hts : mapE int to = ts at *
 have hel : es.length = a.length := by rw [← hes, mapE_len]
 have htl : ts.length = to.length := by rw [← hts, mapE_len]
 have hrw : rowA (Classical.choice tabBox_ne).g o 6 = [int (leastF o), int (mostF o), bool (typedF o), bool (condF o), bool (scopeF o), bool (spanF o)] := by rw [e_rowA]; exact hrow
 have hat : typedF o = true → atA ts v = int nv := fun h => by
  have hv := hov h
  rw [hnv1 h]
  simp only [ee]
  rw [← hts, mapE_eq, List.getD_eq_getElem?_getD, List.getElem?_map, List.getD_eq_getElem?_getD, List.getElem?_eq_getElem (by omega)]; rfl
 generalize leastF o = lo at *
 generalize mostF o = mo at *
 generalize typedF o = ty at *
 generalize condF o = cd at *
 generalize scopeF o = sc at *
 generalize spanF o = sp at *
 clear hrow
 refine fn_body (fn := Tryd.f51) (n := 53) (ac := Trydc51) (rvs := [.cell 4 14 true]) rfl (by decide) Trydp51 rfl rfl rfl ?_
 refine goB hX 0 (by conv => lhs; cbv; try simp only [hrw]; cbv; try simp only [hrw]; cbv; try simp only [hrw]; cbv; try simp only [hrw]; cbv) ?_
 refine on_condJ [(1, .isl 1 ts), (2, .ptr 0 0), (4, .ptr 1 0), (5, .ptr 2 0)] [.cells [int o, .isl 14 es, int t, int nv, int s, int n, int co, .isl 8 eca, int cv, int cf, int ck, int xk, int xn, str xt], .cells [int 0, .val (.slice none 0 0), int 0, int 0, int 0, int 0, int 0, .val (.slice none 0 0), int 0, int 0, int 0, int 0, int 0, str ⟨#[]⟩], .cells [int lo, int mo, bool ty, bool cd, bool sc, bool sp]] rfl (fun h => ?_) (fun h => ?_) ?_
 · have hat := hat h
   have hv := hov h
   refine goB hX 0 (by conv => lhs; cbv; try simp only [hat]; cbv; try simp only [hat]; cbv; try simp only [hat]; cbv; try simp only [hat]; cbv) ?_
   refine ⟨rfl, ?_⟩
   exact (ent_sub [.to 0, .to 1, .to 2] [some 0, some 1, some 2] ⟨⟨by simp, rfl⟩, ⟨by simp, rfl⟩, ⟨by simp, rfl⟩, trivial⟩ ⟨osrc_cells (b := 0) rfl rfl rfl ⟨.refl _, .cl hcl, .refl _, .refl _, .refl _, .refl _, .refl _, .cl hcaI, .refl _, .refl _, .refl _, .refl _, .refl _, .refl _, trivial⟩, osrc_cells (b := 1) rfl rfl rfl ⟨.refl _, .refl _, .refl _, .refl _, .refl _, .refl _, .refl _, .refl _, .refl _, .refl _, .refl _, .refl _, .refl _, .refl _, trivial⟩, osrc_cells (b := 2) rfl rfl rfl ⟨.refl _, .refl _, .refl _, .refl _, .refl _, .refl _, trivial⟩, trivial⟩ ⟨.cl hct, .refl _, .refl _, .refl _, trivial⟩)
 · have hnv2 : v = nv := (hnv2 h).symm
   refine goA 60 ?_
   refine ⟨rfl, ?_⟩
   exact (ent_sub [.to 0, .to 1, .to 2] [some 0, some 1, some 2] ⟨⟨by simp, rfl⟩, ⟨by simp, rfl⟩, ⟨by simp, rfl⟩, trivial⟩ ⟨osrc_cells (b := 0) rfl rfl rfl ⟨.refl _, .cl hcl, .refl _, .of (congrArg int (by assumption)), .refl _, .refl _, .refl _, .cl hcaI, .refl _, .refl _, .refl _, .refl _, .refl _, .refl _, trivial⟩, osrc_cells (b := 1) rfl rfl rfl ⟨.refl _, .refl _, .refl _, .refl _, .refl _, .refl _, .refl _, .refl _, .refl _, .refl _, .refl _, .refl _, .refl _, .refl _, trivial⟩, osrc_cells (b := 2) rfl rfl rfl ⟨.refl _, .refl _, .refl _, .refl _, .refl _, .refl _, trivial⟩, trivial⟩ ⟨.cl hct, .refl _, .refl _, .refl _, trivial⟩)
 refine goA 0 ?_
 refine on_condJ [(1, .isl 1 ts), (2, .ptr 0 0), (4, .ptr 1 0)] [.cells [int o, .isl 14 es, int t, int nv, int s, int n, int ncO, .isl 8 encA', int ncV, int ncF, int ncK, int ncXk, int ncXn, str ncXt], .cells [int 0, .val (.slice none 0 0), int 0, int 0, int 0, int 0, int 0, .val (.slice none 0 0), int 0, int 0, int 0, int 0, int 0, str ⟨#[]⟩]] rfl (fun h => ?_) (fun h => ?_) ?_
 · have hnc1 := hnc1 h
   subst hnc1
   rw [Ex.enc_mk, hea] at hrn
   dsimp only at hrn
   refine goA 0 ?_
   refine oPA hrn ?_
   refine goA 60 ?_
   refine ⟨rfl, ?_⟩
   exact (ent_sub [.to 0, .to 1, .gone] [some 0, some 1] ⟨⟨by simp, rfl⟩, ⟨by simp, rfl⟩, trivial, trivial⟩ ⟨osrc_cells (b := 0) rfl rfl rfl ⟨.refl _, .cl hcl, .refl _, .refl _, .refl _, .refl _, .refl _, .cl hncI, .refl _, .refl _, .refl _, .refl _, .refl _, .refl _, trivial⟩, osrc_cells (b := 1) rfl rfl rfl ⟨.refl _, .refl _, .refl _, .refl _, .refl _, .refl _, .refl _, .refl _, .refl _, .refl _, .refl _, .refl _, .refl _, .refl _, trivial⟩, trivial⟩ ⟨.cl hct, .refl _, .refl _, trivial⟩)
 · have hnc2 := hnc2 h
   simp only [Ex.mk.injEq, Vl.mk.injEq] at hnc2
   obtain ⟨rfl, rfl, rfl, rfl, rfl, rfl, rfl, rfl⟩ := hnc2
   have hee : eca = encA' := hec.symm.trans hea
   subst hee
   refine goA 60 ?_
   refine ⟨rfl, ?_⟩
   exact (ent_sub [.to 0, .to 1, .gone] [some 0, some 1] ⟨⟨by simp, rfl⟩, ⟨by simp, rfl⟩, trivial, trivial⟩ ⟨osrc_cells (b := 0) rfl rfl rfl ⟨.refl _, .cl hcl, .refl _, .refl _, .refl _, .refl _, .refl _, .cl hcaI, .refl _, .refl _, .refl _, .refl _, .refl _, .refl _, trivial⟩, osrc_cells (b := 1) rfl rfl rfl ⟨.refl _, .refl _, .refl _, .refl _, .refl _, .refl _, .refl _, .refl _, .refl _, .refl _, .refl _, .refl _, .refl _, .refl _, trivial⟩, trivial⟩ ⟨.cl hct, .refl _, .refl _, trivial⟩)
 have hc0 : AV.closedL (repA (lenA es) (.agg [int 0, .val (.slice none 0 0), int 0, int 0, int 0, int 0, int 0, .val (.slice none 0 0), int 0, int 0, int 0, int 0, int 0, str ⟨#[]⟩])) = true := by simp only [ee]; exact AV.closedL_of fun c hc => by rw [List.eq_of_mem_replicate hc]; rfl
 refine goA 60 ?_
 refine on_loopP (ι := List Pat × List Pat × Int × List AV) (fun p => ([(38, int p.2.2.1), (37, int (lenA es)), (36, .isl 14 es), (1, .isl 1 ts), (2, .ptr 0 0), (4, .ptr 1 0), (6, .sl 2 14 0 (natOf (lenA es)))], [.cells [int o, .isl 14 es, int t, int nv, int s, int n, int ncO, .isl 8 encA', int ncV, int ncF, int ncK, int ncXk, int ncXn, str ncXt], .cells [int 0, .val (.slice none 0 0), int 0, int 0, int 0, int 0, int 0, .val (.slice none 0 0), int 0, int 0, int 0, int 0, int 0, str ⟨#[]⟩], .arr 14 p.2.2.2])) (fun p => a = p.1 ++ p.2.1 ∧ p.2.2.1 = p.1.length ∧ p.2.2.2 = mapE Pat.enc (Pat.renL to p.1) ++ List.replicate p.2.1.length (.agg [int 0, .val (.slice none 0 0), int 0, int 0, int 0, int 0, int 0, .val (.slice none 0 0), int 0, int 0, int 0, int 0, int 0, str ⟨#[]⟩])) (fun p => p.2.1.length) ([], a, 0, repA (lenA es) (.agg [int 0, .val (.slice none 0 0), int 0, int 0, int 0, int 0, int 0, .val (.slice none 0 0), int 0, int 0, int 0, int 0, int 0, str ⟨#[]⟩])) ⟨rfl, rfl, by simp only [ee]; rw [Pat.renL, hnil, hel]; simp⟩ ?_ ?_
 · exact (ent_sub [.to 0, .to 1, .to 2] [some 0, some 1, some 2] ⟨⟨by simp, rfl⟩, ⟨by simp, rfl⟩, ⟨by simp, rfl⟩, trivial⟩ ⟨osrc_cells (b := 0) rfl rfl rfl ⟨.refl _, .cl hcl, .refl _, .refl _, .refl _, .refl _, .refl _, .cl hncI, .refl _, .refl _, .refl _, .refl _, .refl _, .refl _, trivial⟩, osrc_cells (b := 1) rfl rfl rfl ⟨.refl _, .refl _, .refl _, .refl _, .refl _, .refl _, .refl _, .refl _, .refl _, .refl _, .refl _, .refl _, .refl _, .refl _, trivial⟩, osrc_arr (b := 2) rfl rfl rfl rfl hc0, trivial⟩ ⟨.refl _, .refl _, .cl hcl, .cl hct, .refl _, .refl _, .refl _, trivial⟩)
 rintro ⟨d, r, i, w⟩ ⟨g1, gi, gw⟩
 dsimp only at g1 gi gw ⊢
 have hzc : (AV.agg [int 0, .val (.slice none 0 0), int 0, int 0, int 0, int 0, int 0, .val (.slice none 0 0), int 0, int 0, int 0, int 0, int 0, str ⟨#[]⟩]).closed = true := rfl
 have hcw : AV.closedL w = true := by
  rw [gw]; refine closedL_append (Pat.closedL _) (AV.closedL_of fun c hc => ?_)
  rw [List.eq_of_mem_replicate hc]; rfl
 have hwl : w.length = a.length := by rw [gw, g1]; simp [mapE_len, Pat.renL_len]
 have hnl : natOf (lenA es) = w.length := by simp only [ee]; omega
 cases r with
 | nil =>
  have L1 := len_split g1
  try simp only [List.length] at L1
  have hc : iLt i (lenA es) = false := lt_f e_iLt e_lenA (by omega)
  rw [List.append_nil] at g1
  have hF2 : F = w := by rw [hFin, gw, g1]; simp
  rw [hF2]
  refine goB hX 0 (by conv => lhs; cbv; try simp only [hc]; cbv; try simp only [hc]; cbv; try simp only [hc]; cbv; try simp only [hc]; cbv) ?_
  refine goA 60 ?_
  refine loopP_exit ?_
  refine goA 60 ?_
  refine fn_ret rfl rfl ?_
  exact ⟨[.gone, .gone, .isl 14 (w)], ⟨trivial, trivial, ⟨_, rfl, (subL_closed _ hcw).symm⟩, trivial⟩, .agg' ⟨.refl _, .of (sub_whole rfl (by assumption)), .refl _, .refl _, .refl _, .refl _, .refl _, .cl hncI, .refl _, .refl _, .refl _, .refl _, .refl _, .refl _, trivial⟩⟩
 | cons q r =>
  have L1 := len_split g1
  try simp only [List.length] at L1
  have hc : iLt i (lenA es) = true := lt_t e_iLt e_lenA (by omega)
  have hat2 := el_at e_atA hes g1 gi
  have hq := hih q (by rw [g1]; simp)
  have hqc := Pat.closed q
  have hqr := Pat.closed (q.ren to)
  have hi2 : iAdd .i64 i 1 = ((d ++ [q]).length : Int) := by rw [List.length_append]; exact inc_w e_iAdd gi (by omega)
  have hix : idxN 0 i = d.length := by simp only [ee]; omega
  have hw2 : w.set d.length (q.ren to).enc = mapE Pat.enc (Pat.renL to (d ++ [q])) ++ List.replicate r.length (.agg [int 0, .val (.slice none 0 0), int 0, int 0, int 0, int 0, int 0, .val (.slice none 0 0), int 0, int 0, int 0, int 0, int 0, str ⟨#[]⟩]) := by
   rw [fill_next (d := mapE Pat.enc (Pat.renL to d)) (r := List.replicate r.length (.agg [int 0, .val (.slice none 0 0), int 0, int 0, int 0, int 0, int 0, .val (.slice none 0 0), int 0, int 0, int 0, int 0, int 0, str ⟨#[]⟩])) (x := .agg [int 0, .val (.slice none 0 0), int 0, int 0, int 0, int 0, int 0, .val (.slice none 0 0), int 0, int 0, int 0, int 0, int 0, str ⟨#[]⟩]) (z := .agg [int 0, .val (.slice none 0 0), int 0, int 0, int 0, int 0, int 0, .val (.slice none 0 0), int 0, int 0, int 0, int 0, int 0, str ⟨#[]⟩]) (by rw [gw]; simp) (by rw [mapE_len, Pat.renL_len])]
   rw [Pat.renL_append, mapE_eq, mapE_eq]; simp [Pat.renL]
  generalize q.ren to = qr at *
  obtain ⟨qO, qA, qT, qV, qS, qN, qCo, qCa, qCv, qCf, qCk, qXk, qXn, qXt, hxq⟩ := Pat.form q
  obtain ⟨qrO, qrA, qrT, qrV, qrS, qrN, qrCo, qrCa, qrCv, qrCf, qrCk, qrXk, qrXn, qrXt, hxr⟩ := Pat.form qr
  rw [hxq] at hat2 hqc hq
  rw [hxr] at hq hqr hw2
  have hw3 : setA w (idxN 0 i) (.agg [int qrO, .isl 14 qrA, int qrT, int qrV, int qrS, int qrN, int qrCo, .isl 8 qrCa, int qrCv, int qrCf, int qrCk, int qrXk, int qrXn, str qrXt]) = mapE Pat.enc (Pat.renL to (d ++ [q])) ++ List.replicate r.length (.agg [int 0, .val (.slice none 0 0), int 0, int 0, int 0, int 0, int 0, .val (.slice none 0 0), int 0, int 0, int 0, int 0, int 0, str ⟨#[]⟩]) := by rw [hix]; simp only [ee]; exact hw2
  have hc3 : AV.closedL (setA w (idxN 0 i) (.agg [int qrO, .isl 14 qrA, int qrT, int qrV, int qrS, int qrN, int qrCo, .isl 8 qrCa, int qrCv, int qrCf, int qrCk, int qrXk, int qrXn, str qrXt])) = true := by
   rw [hw3]; refine closedL_append (Pat.closedL _) (AV.closedL_of fun c hc => ?_)
   rw [List.eq_of_mem_replicate hc]; rfl
  refine goB hX 0 (by conv => lhs; cbv; try simp only [hc, hat2]; cbv; try simp only [hc, hat2]; cbv; try simp only [hc, hat2]; cbv; try simp only [hc, hat2]; cbv) ?_
  refine goB hX 1 (by conv => lhs; cbv; try simp only [hc, hat2]; cbv; try simp only [hc, hat2]; cbv; try simp only [hc, hat2]; cbv; try simp only [hc, hat2]; cbv) ?_
  refine oPA hq ?_
  refine goA 60 ?_
  refine loopP_next (d ++ [q], r, iAdd .i64 i 1, setA w (idxN 0 i) (.agg [int qrO, .isl 14 qrA, int qrT, int qrV, int qrS, int qrN, int qrCo, .isl 8 qrCa, int qrCv, int qrCf, int qrCk, int qrXk, int qrXn, str qrXt])) ⟨by simp [g1], hi2, hw3⟩ (by simp) (ent_sub [.to 0, .to 1, .to 2, .gone] [some 0, some 1, some 2] ⟨⟨by simp, rfl⟩, ⟨by simp, rfl⟩, ⟨by simp, rfl⟩, trivial, trivial⟩ ⟨osrc_cells (b := 0) rfl rfl rfl ⟨.refl _, .cl hcl, .refl _, .refl _, .refl _, .refl _, .refl _, .cl hncI, .refl _, .refl _, .refl _, .refl _, .refl _, .refl _, trivial⟩, osrc_cells (b := 1) rfl rfl rfl ⟨.refl _, .refl _, .refl _, .refl _, .refl _, .refl _, .refl _, .refl _, .refl _, .refl _, .refl _, .refl _, .refl _, .refl _, trivial⟩, osrc_arr (b := 2) rfl rfl rfl rfl hc3, trivial⟩ ⟨.refl _, .refl _, .cl hcl, .cl hct, .refl _, .refl _, .refl _, trivial⟩)
end Go.Am
end
