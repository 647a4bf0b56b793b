/- Contracts of the program's functions, for every argument that meets the conditions that each theorem names. -/
import Derived.Test.YtehpdnkachbakaaGreatDoorAm6
import Derived.Test.YtehpdnkachbakaaGreatDoorCt2
section
set_option maxHeartbeats 16000000
set_option maxRecDepth 100000
namespace Go.Am
open Go.Proofs
theorem Pat.some_cells (p : Pat) : ∃ cs, p.enc = .agg cs := by obtain ⟨o, es, t, v, s, n, co, ec, cv, cf, ck, xk, xn, xt, h⟩ := Pat.form p; exact ⟨_, h⟩
noncomputable def Pat.wholeE (p : Pat) : Int := if p.chkR ≠ 0 then p.chkR else firstE (fun q => if 8 ≤ q.op then 1 else 0) p.nodes
theorem P_whole (p : Pat) (hs : p.Sm) : PCall EE 45 [p.enc] (int p.wholeE) := by
 have h1 := P_CheckRest p hs
 have hcl := Pat.closed p
 obtain ⟨R, hR⟩ : ∃ R, R = p.wholeE := ⟨_, rfl⟩
 rw [← hR]
 unfold Pat.wholeE at hR
 obtain ⟨pcs, hpe⟩ := Pat.some_cells p
 have hpre := P_preorder p hpe
 obtain ⟨pO, pA, pT, pV, pS, pN, pCo, pCa, pCv, pCf, pCk, pXk, pXn, pXt, hx⟩ := Pat.form p
 rw [hx] at h1 hcl hpe ⊢
 injection hpe with hpe
 subst hpe
 have hip : (AV.fn 71 [.iptr [int pO, .isl 14 pA, int pT, int pV, int pS, int pN, int pCo, .isl 8 pCa, int pCv, int pCf, int pCk, int pXk, int pXn, str pXt]]).closed = true := by simp only [closed_fn, AV.closedL, closed_iptr, Bool.and_true]; exact hcl
 generalize p.chkR = rn at *
 refine wordsN ?_; unhygienic intros
 refine fn_body (fn := Tryz.f45) (n := 16) (ac := Tryzc45) (rvs := [.cell 2 1 false]) rfl (by decide) Tryzp45 rfl rfl rfl ?_
 by_cases g1 : rn = 0
 rotate_left
 · have k1 : iNe rn 0 = true := by simp only [ee]; simpa using g1
   rw [if_pos g1] at hR
   refine goA 60 ?_
   refine pcA h1 ?_
   refine goB hX 0 (by conv => lhs; cbv; try simp only [k1]; cbv; try simp only [k1]; cbv; try simp only [k1]; cbv; try simp only [k1]; cbv) ?_
   refine goA 60 ?_
   refine fn_ret rfl rfl (.val ?_)
   exact congrArg (Value.int .i64) hR.symm
 have k1 : iNe rn 0 = false := by simp only [ee]; simpa using g1
 rw [if_neg (by simpa using g1)] at hR
 refine goA 60 ?_
 refine pcA h1 ?_
 refine goB hX 0 (by conv => lhs; cbv; try simp only [k1]; cbv; try simp only [k1]; cbv; try simp only [k1]; cbv; try simp only [k1]; cbv) ?_
 refine goA 60 ?_
 refine pcA hpre ?_
 refine goA 60 ?_
 refine on_ent (F' := [(11, .fn 71 [.iptr [int pO, .isl 14 pA, int pT, int pV, int pS, int pN, int pCo, .isl 8 pCa, int pCv, int pCf, int pCk, int pXk, int pXn, str pXt]]), (2, .ptr 0 0)]) (H' := [.cells [int 0], .dead, .dead, .dead, .dead, .dead, .dead]) ?_ ?_
 · exact (ent_sub [.gone, .to 0] [some 1, none, none, none, none, none, none] ⟨trivial, ⟨by simp, rfl⟩, trivial⟩ ⟨osrc_cells (b := 1) rfl rfl rfl ⟨.refl _, trivial⟩, .dead, .dead, .dead, .dead, .dead, .dead, trivial⟩ ⟨.cl hip, .refl _, trivial⟩)
 refine on_preorder (fun _ => .cells [int 0]) (fun _ => .dead) (fun _ => .dead) (fun _ => .dead) (fun _ => .dead) (fun _ => .dead) (fun _ => .dead) (fun _ => .dead) (fun _ => .dead) (fun d => ∀ q ∈ d, (if 8 ≤ q.op then 1 else 0 : Int) = 0) p hs hx rfl rfl ⟨.cl hip, .ptr (by decide), trivial⟩ (fun q hq => by cases hq) ?_ (fun _ => .cells ⟨.cl rfl, trivial⟩) (fun _ => .dead) (fun _ => .dead) (fun _ => .dead) (fun _ => .dead) (fun _ => .dead) (fun _ => .dead) (fun _ => .dead) (fun _ => .dead) (fun hall => ?_) (fun d q r hd hok => ?_)
 · exact (hent_sub [.to 0, .gone, .gone, .gone, .gone, .gone, .gone, .to 7] [some 0, some 1, some 2, some 3, some 4, some 5, some 6, some 7, none, none] rfl ⟨rfl, rfl, rfl, rfl, rfl, rfl, rfl, rfl, trivial⟩ (by simp) (by simp) ⟨⟨by simp, rfl⟩, trivial, trivial, trivial, trivial, trivial, trivial, ⟨by simp, rfl⟩, trivial⟩ ⟨osrc_cells (b := 0) rfl rfl rfl ⟨.refl _, trivial⟩, .dead, .dead, .dead, .dead, .dead, .dead, .some 7 _ _ rfl rfl rfl (.loop _ _ _ _ _ _ _ _ ⟨.cl hip, .refl _, trivial⟩), .dead, .dead, trivial⟩)
 · have hR : R = 0 := by rw [hR]; exact firstE_ok hall
   refine goA 60 ?_
   refine fn_ret rfl rfl (.val ?_)
   exact congrArg (Value.int .i64) hR.symm
 · have hqc := Pat.closed q
   have hfe := fun h => firstE_at (F := fun q : Pat => (if 8 ≤ q.op then 1 else 0 : Int)) (r := r) hok (q := q) h
   rw [← hd] at hfe
   have hok2 : (if 8 ≤ q.op then 1 else 0 : Int) = 0 → ∀ q' ∈ d ++ [q], (if 8 ≤ q'.op then 1 else 0 : Int) = 0 := fun h q' hq' => by
    rcases List.mem_append.1 hq' with h' | h'
    · exact hok q' h'
    · simp at h'; rw [h']; exact h
   obtain ⟨qO, qA, qT, qV, qS, qN, qCo, qCa, qCv, qCf, qCk, qXk, qXn, qXt, hx2, hx2c, hqO, hqA, hqT, hqV, hqS, hqN⟩ := Pat.form2 q
   rw [hx2] at hqc ⊢
   rw [← hqO] at hfe hok2
   by_cases hqe : 8 ≤ qO
   · have k3 : iLe 8 qO = true := by simp only [ee]; simpa using hqe
     have hR : R = 1 := by rw [hR, hfe (by simp [hqe]), if_pos hqe]
     refine goA 60 ?_
     refine rnd_assign rfl ?_
     refine goB hX 0 (by conv => lhs; cbv; try simp only [k3]; cbv; try simp only [k3]; cbv; try simp only [k3]; cbv; try simp only [k3]; cbv) ?_
     refine goA 60 ?_
     refine rnd_stop (by simp) rfl ?_
     refine goA 60 ?_
     refine fn_ret rfl rfl (.val ?_)
     exact congrArg (Value.int .i64) hR.symm
   · have k3 : iLe 8 qO = false := by simp only [ee]; simp; omega
     refine goA 60 ?_
     refine rnd_assign rfl ?_
     refine goB hX 0 (by conv => lhs; cbv; try simp only [k3]; cbv; try simp only [k3]; cbv; try simp only [k3]; cbv; try simp only [k3]; cbv) ?_
     refine goA 60 ?_
     exact rnd_next rfl (hok2 (if_neg hqe)) (hent_sub [.to 0, .gone, .gone, .gone, .gone, .gone, .gone, .to 7, .gone, .gone, .gone] [some 0, some 1, some 2, some 3, some 4, some 5, some 6, some 7, none, none] rfl ⟨rfl, rfl, rfl, rfl, rfl, rfl, rfl, rfl, trivial⟩ (by simp) (by simp) ⟨⟨by simp, rfl⟩, trivial, trivial, trivial, trivial, trivial, trivial, ⟨by simp, rfl⟩, trivial, trivial, trivial, trivial⟩ ⟨osrc_cells (b := 0) rfl rfl rfl ⟨.refl _, trivial⟩, .dead, .dead, .dead, .dead, .dead, .dead, .some 7 _ _ rfl rfl rfl (.loop _ _ _ _ _ _ _ _ ⟨.cl hip, .refl _, trivial⟩), .dead, .dead, trivial⟩)
def cstep (s : Int × Int × Bool) (q : Pat) : Int × Int × Bool :=
 ((if typedF q.op then s.1 + 1 else s.1), (if scopeF q.op then s.2.1 + 1 else s.2.1), (s.2.2 && (!typedF q.op || q.var == s.1)) && (!scopeF q.op || q.scope == s.2.1))
def cfold (l : List Pat) : Int × Int × Bool := l.foldl cstep (0, 0, true)
theorem cfold_snoc (d : List Pat) (q : Pat) : cfold (d ++ [q]) = cstep (cfold d) q := by simp [cfold]
theorem cfold_bd (d : List Pat) : 0 ≤ (cfold d).1 ∧ (cfold d).1 ≤ d.length ∧ 0 ≤ (cfold d).2.1 ∧ (cfold d).2.1 ≤ d.length := by
 have : ∀ (l : List Pat) (s : Int × Int × Bool), s.1 ≤ (l.foldl cstep s).1 ∧ (l.foldl cstep s).1 ≤ s.1 + l.length ∧ s.2.1 ≤ (l.foldl cstep s).2.1 ∧ (l.foldl cstep s).2.1 ≤ s.2.1 + l.length := by
  intro l
  induction l with
  | nil => intro s; simp
  | cons q r ih =>
   intro s
   have := ih (cstep s q)
   simp only [List.foldl_cons, List.length_cons]
   simp only [cstep] at this ⊢
   split at this <;> split at this <;> simp_all <;> omega
 have := this d (0, 0, true)
 simpa [cfold] using this
theorem P_count (p : Pat) (hs : p.Sm) (hop : ∀ q ∈ p.nodes, 0 ≤ q.op ∧ q.op < 11) : PCall EE 46 [p.enc] (.tup [int (cfold p.nodes).1, int (cfold p.nodes).2.1, bool (cfold p.nodes).2.2]) := by
 have hcl := Pat.closed p
 have hcnt := Pat.nodes_len p
 have hs1 := hs.1
 obtain ⟨pcs, hpe⟩ := Pat.some_cells p
 have hpre := P_preorder p hpe
 obtain ⟨pO, pA, pT, pV, pS, pN, pCo, pCa, pCv, pCf, pCk, pXk, pXn, pXt, hx⟩ := Pat.form p
 rw [hx] at hcl hpe ⊢
 injection hpe with hpe
 subst hpe
 have hip : (AV.fn 71 [.iptr [int pO, .isl 14 pA, int pT, int pV, int pS, int pN, int pCo, .isl 8 pCa, int pCv, int pCf, int pCk, int pXk, int pXn, str pXt]]).closed = true := by simp only [closed_fn, AV.closedL, closed_iptr, Bool.and_true]; exact hcl
 refine wordsN ?_; unhygienic intros
 refine fn_body (fn := Tryz.f46) (n := 42) (ac := Tryzc46) (rvs := [.t 2, .t 3, .t 4]) rfl (by decide) Tryzp46 rfl rfl rfl ?_
 refine goA 60 ?_
 refine pcA hpre ?_
 refine goA 60 ?_
 refine on_ent (F' := [(11, .fn 71 [.iptr [int pO, .isl 14 pA, int pT, int pV, int pS, int pN, int pCo, .isl 8 pCa, int pCv, int pCf, int pCk, int pXk, int pXn, str pXt]]), (5, .ptr 0 0), (6, .ptr 1 0), (7, .ptr 2 0)]) (H' := [.cells [int 0], .cells [int 0], .cells [bool true], .dead, .dead, .dead, .dead]) ?_ ?_
 · exact (ent_sub [.gone, .to 0, .to 1, .to 2] [some 1, some 2, some 3, none, none, none, none] ⟨trivial, ⟨by simp, rfl⟩, ⟨by simp, rfl⟩, ⟨by simp, rfl⟩, trivial⟩ ⟨osrc_cells (b := 1) rfl rfl rfl ⟨.refl _, trivial⟩, osrc_cells (b := 2) rfl rfl rfl ⟨.refl _, trivial⟩, osrc_cells (b := 3) rfl rfl rfl ⟨.refl _, trivial⟩, .dead, .dead, .dead, .dead, trivial⟩ ⟨.cl hip, .refl _, .refl _, .refl _, trivial⟩)
 refine on_preorder (fun d => .cells [int (cfold d).1]) (fun d => .cells [int (cfold d).2.1]) (fun d => .cells [bool (cfold d).2.2]) (fun _ => .dead) (fun _ => .dead) (fun _ => .dead) (fun _ => .dead) (fun _ => .dead) (fun _ => .dead) (fun _ => True) p hs hx rfl rfl ⟨.cl hip, .ptr (by decide), .ptr (by decide), .ptr (by decide), trivial⟩ trivial ?_ (fun _ => .cells ⟨.cl rfl, trivial⟩) (fun _ => .cells ⟨.cl rfl, trivial⟩) (fun _ => .cells ⟨.cl rfl, trivial⟩) (fun _ => .dead) (fun _ => .dead) (fun _ => .dead) (fun _ => .dead) (fun _ => .dead) (fun _ => .dead) (fun _ => ?_) (fun d q r hd _ => ?_)
 · exact (hent_sub [.to 0, .to 1, .to 2, .gone, .gone, .gone, .gone, .to 7] [some 0, some 1, some 2, some 3, some 4, some 5, some 6, some 7, none, none] rfl ⟨rfl, rfl, rfl, rfl, rfl, rfl, rfl, rfl, trivial⟩ (by simp) (by simp) ⟨⟨by simp, rfl⟩, ⟨by simp, rfl⟩, ⟨by simp, rfl⟩, trivial, trivial, trivial, trivial, ⟨by simp, rfl⟩, trivial⟩ ⟨osrc_cells (b := 0) rfl rfl rfl ⟨.refl _, trivial⟩, osrc_cells (b := 1) rfl rfl rfl ⟨.refl _, trivial⟩, osrc_cells (b := 2) rfl rfl rfl ⟨.refl _, trivial⟩, .dead, .dead, .dead, .dead, .some 7 _ _ rfl rfl rfl (.loop _ _ _ _ _ _ _ _ ⟨.cl hip, .refl _, .refl _, .refl _, trivial⟩), .dead, .dead, trivial⟩)
 · generalize (cfold p.nodes).1 = c1 at *
   generalize (cfold p.nodes).2.1 = c2 at *
   generalize (cfold p.nodes).2.2 = c3 at *
   refine goA 60 ?_
   refine fn_ret rfl rfl ?_
   exact ⟨[.gone, .gone, .gone, .gone, .gone, .gone, .gone, .gone, .gone, .gone], ⟨trivial, trivial, trivial, trivial, trivial, trivial, trivial, trivial, trivial, trivial, trivial⟩, .refl _⟩
 · have hqc := Pat.closed q
   have hqo := hop q (by rw [hd]; simp)
   have hrow := shape_row hqo.1 hqo.2
   have hb := cfold_bd d
   have hdl : d.length ≤ 1048576 := by have := congrArg List.length hd; simp at this; omega
   have e1 : (cfold (d ++ [q])).1 = _ := congrArg (fun s => s.1) (cfold_snoc d q)
   have e2 : (cfold (d ++ [q])).2.1 = _ := congrArg (fun s => s.2.1) (cfold_snoc d q)
   have e3 : (cfold (d ++ [q])).2.2 = _ := congrArg (fun s => s.2.2) (cfold_snoc d q)
   dsimp only [cstep] at e1 e2 e3
   have hrw : rowA (Classical.choice tabBox_ne).g q.op 6 = [int (leastF q.op), int (mostF q.op), bool (typedF q.op), bool (condF q.op), bool (scopeF q.op), bool (spanF q.op)] := by rw [e_rowA]; exact hrow
   generalize leastF q.op = lo at *
   generalize mostF q.op = mo at *
   generalize hty : typedF q.op = ty at *
   generalize condF q.op = cd at *
   generalize hsc : scopeF q.op = sc at *
   generalize spanF q.op = sp at *
   clear hrow
   obtain ⟨qO, qA, qT, qV, qS, qN, qCo, qCa, qCv, qCf, qCk, qXk, qXn, qXt, hx2, hx2c, hqO, hqA, hqT, hqV, hqS, hqN⟩ := Pat.form2 q
   rw [hx2] at hqc ⊢
   simp only [← hqO, ← hqV, ← hqS] at *
   generalize (cfold d).1 = c1 at *
   generalize (cfold d).2.1 = c2 at *
   generalize (cfold d).2.2 = c3 at *
   generalize (cfold (d ++ [q])).1 = f1 at *
   generalize (cfold (d ++ [q])).2.1 = f2 at *
   generalize (cfold (d ++ [q])).2.2 = f3 at *
   clear hx2 hx2c hqO hqA hqT hqV hqS hqN hty hsc
   have a1 : iAdd .i64 c1 1 = c1 + 1 := add_w e_iAdd (by omega) (by omega)
   have a2 : iAdd .i64 c2 1 = c2 + 1 := add_w e_iAdd (by omega) (by omega)
   cases ty <;> cases sc
   · have e1 : c1 = f1 := by simpa using e1.symm
     have e2 : c2 = f2 := by simpa using e2.symm
     have e3 : c3 = f3 := by simpa using e3.symm
     refine goA 60 ?_
     refine rnd_assign rfl ?_
     refine goB hX 0 (by conv => lhs; cbv; try simp only [hrw]; cbv; try simp only [hrw]; cbv; try simp only [hrw]; cbv; try simp only [hrw]; cbv) ?_
     refine goA 60 ?_
     exact rnd_next rfl trivial (hent_sub [.to 0, .to 1, .to 2, .gone, .gone, .gone, .gone, .to 7, .gone, .gone, .gone, .gone] [some 0, some 1, some 2, some 3, some 4, some 5, some 6, some 7, none, none] rfl ⟨rfl, rfl, rfl, rfl, rfl, rfl, rfl, rfl, trivial⟩ (by simp) (by simp) ⟨⟨by simp, rfl⟩, ⟨by simp, rfl⟩, ⟨by simp, rfl⟩, trivial, trivial, trivial, trivial, ⟨by simp, rfl⟩, trivial, trivial, trivial, trivial, trivial⟩ ⟨osrc_cells (b := 0) rfl rfl rfl ⟨.of (congrArg int (by assumption)), trivial⟩, osrc_cells (b := 1) rfl rfl rfl ⟨.of (congrArg int (by assumption)), trivial⟩, osrc_cells (b := 2) rfl rfl rfl ⟨.of (congrArg bool (by assumption)), trivial⟩, .dead, .dead, .dead, .dead, .some 7 _ _ rfl rfl rfl (.loop _ _ _ _ _ _ _ _ ⟨.cl hip, .refl _, .refl _, .refl _, trivial⟩), .dead, .dead, trivial⟩)
   · have e1 : c1 = f1 := by simpa using e1.symm
     have e2 : iAdd .i64 c2 1 = f2 := by rw [a2]; simpa using e2.symm
     have e3 : bAnd c3 (iEq qS c2) = f3 := by simp only [ee]; simpa using e3.symm
     refine goA 60 ?_
     refine rnd_assign rfl ?_
     refine goB hX 0 (by conv => lhs; cbv; try simp only [hrw]; cbv; try simp only [hrw]; cbv; try simp only [hrw]; cbv; try simp only [hrw]; cbv) ?_
     refine goA 60 ?_
     exact rnd_next rfl trivial (hent_sub [.to 0, .to 1, .to 2, .gone, .gone, .gone, .gone, .to 7, .gone, .gone, .gone, .gone] [some 0, some 1, some 2, some 3, some 4, some 5, some 6, some 7, none, none] rfl ⟨rfl, rfl, rfl, rfl, rfl, rfl, rfl, rfl, trivial⟩ (by simp) (by simp) ⟨⟨by simp, rfl⟩, ⟨by simp, rfl⟩, ⟨by simp, rfl⟩, trivial, trivial, trivial, trivial, ⟨by simp, rfl⟩, trivial, trivial, trivial, trivial, trivial⟩ ⟨osrc_cells (b := 0) rfl rfl rfl ⟨.of (congrArg int (by assumption)), trivial⟩, osrc_cells (b := 1) rfl rfl rfl ⟨.of (congrArg int (by assumption)), trivial⟩, osrc_cells (b := 2) rfl rfl rfl ⟨.of (congrArg bool (by assumption)), trivial⟩, .dead, .dead, .dead, .dead, .some 7 _ _ rfl rfl rfl (.loop _ _ _ _ _ _ _ _ ⟨.cl hip, .refl _, .refl _, .refl _, trivial⟩), .dead, .dead, trivial⟩)
   · have e1 : iAdd .i64 c1 1 = f1 := by rw [a1]; simpa using e1.symm
     have e2 : c2 = f2 := by simpa using e2.symm
     have e3 : bAnd c3 (iEq qV c1) = f3 := by simp only [ee]; simpa using e3.symm
     refine goA 60 ?_
     refine rnd_assign rfl ?_
     refine goB hX 0 (by conv => lhs; cbv; try simp only [hrw]; cbv; try simp only [hrw]; cbv; try simp only [hrw]; cbv; try simp only [hrw]; cbv) ?_
     refine goA 60 ?_
     exact rnd_next rfl trivial (hent_sub [.to 0, .to 1, .to 2, .gone, .gone, .gone, .gone, .to 7, .gone, .gone, .gone, .gone] [some 0, some 1, some 2, some 3, some 4, some 5, some 6, some 7, none, none] rfl ⟨rfl, rfl, rfl, rfl, rfl, rfl, rfl, rfl, trivial⟩ (by simp) (by simp) ⟨⟨by simp, rfl⟩, ⟨by simp, rfl⟩, ⟨by simp, rfl⟩, trivial, trivial, trivial, trivial, ⟨by simp, rfl⟩, trivial, trivial, trivial, trivial, trivial⟩ ⟨osrc_cells (b := 0) rfl rfl rfl ⟨.of (congrArg int (by assumption)), trivial⟩, osrc_cells (b := 1) rfl rfl rfl ⟨.of (congrArg int (by assumption)), trivial⟩, osrc_cells (b := 2) rfl rfl rfl ⟨.of (congrArg bool (by assumption)), trivial⟩, .dead, .dead, .dead, .dead, .some 7 _ _ rfl rfl rfl (.loop _ _ _ _ _ _ _ _ ⟨.cl hip, .refl _, .refl _, .refl _, trivial⟩), .dead, .dead, trivial⟩)
   · have e1 : iAdd .i64 c1 1 = f1 := by rw [a1]; simpa using e1.symm
     have e2 : iAdd .i64 c2 1 = f2 := by rw [a2]; simpa using e2.symm
     have e3 : bAnd (bAnd c3 (iEq qV c1)) (iEq qS c2) = f3 := by simp only [ee]; simpa using e3.symm
     refine goA 60 ?_
     refine rnd_assign rfl ?_
     refine goB hX 0 (by conv => lhs; cbv; try simp only [hrw]; cbv; try simp only [hrw]; cbv; try simp only [hrw]; cbv; try simp only [hrw]; cbv) ?_
     refine goA 60 ?_
     exact rnd_next rfl trivial (hent_sub [.to 0, .to 1, .to 2, .gone, .gone, .gone, .gone, .to 7, .gone, .gone, .gone, .gone] [some 0, some 1, some 2, some 3, some 4, some 5, some 6, some 7, none, none] rfl ⟨rfl, rfl, rfl, rfl, rfl, rfl, rfl, rfl, trivial⟩ (by simp) (by simp) ⟨⟨by simp, rfl⟩, ⟨by simp, rfl⟩, ⟨by simp, rfl⟩, trivial, trivial, trivial, trivial, ⟨by simp, rfl⟩, trivial, trivial, trivial, trivial, trivial⟩ ⟨osrc_cells (b := 0) rfl rfl rfl ⟨.of (congrArg int (by assumption)), trivial⟩, osrc_cells (b := 1) rfl rfl rfl ⟨.of (congrArg int (by assumption)), trivial⟩, osrc_cells (b := 2) rfl rfl rfl ⟨.of (congrArg bool (by assumption)), trivial⟩, .dead, .dead, .dead, .dead, .some 7 _ _ rfl rfl rfl (.loop _ _ _ _ _ _ _ _ ⟨.cl hip, .refl _, .refl _, .refl _, trivial⟩), .dead, .dead, trivial⟩)
def bndF (l : List Pat) : List Int := (l.filter fun q => decide (q.op = 0)).map Pat.var
def Pat.bound (p : Pat) : List Int := Lib.compact (sortI (bndF p.nodes))
theorem bndF_snoc (d : List Pat) (q : Pat) : bndF (d ++ [q]) = if q.op = 0 then bndF d ++ [q.var] else bndF d := by
 unfold bndF
 rw [List.filter_append, List.map_append]
 by_cases h : q.op = 0 <;> simp [h]
theorem bndF_len (d : List Pat) : (bndF d).length ≤ d.length := by
 unfold bndF; rw [List.length_map]; exact List.length_filter_le ..
theorem sort_len (l : List Int) : (sortI l).length = l.length := by simp [sortI, List.length_mergeSort]
theorem enters_slices_Sort___int_int_ : Enters EE.P 59 := enters_of (fn := Tryz.f59) (n := 11) (ac := Tryzc59) rfl (by decide) Tryzp59
theorem enters_slices_Compact___int_int_ : Enters EE.P 60 := enters_of (fn := Tryz.f60) (n := 61) (ac := Tryzc60) rfl (by decide) Tryzp60
theorem C_Sort (l : List Int) (hl : l.length < 4611686018427387904) : ACall EE 59 [.sl 0 1 0 l.length] [.arr 1 (mapE int l)] fun v H' => v = .tup [] ∧ H' = [.arr 1 (mapE int (sortI l))] := by
 have := sort_acall (E := EE) Tryz.lays189 l hl
 rw [mapE_eq, mapE_eq]
 exact this
theorem C_Compact (l : List Int) (hl : l.length < 4611686018427387904) : ACall EE 60 [.sl 0 1 0 l.length] [.arr 1 (mapE int l)] fun v H' => v = .sl 0 1 0 (Lib.compact l).length ∧ H' = [.arr 1 (mapE int (compI l))] := by
 have := comp_acall (E := EE) Tryz.laysNm220 l (by omega)
 rw [mapE_eq, mapE_eq]
 exact this
theorem P_Bound (p : Pat) (hs : p.Sm) : PCall EE 33 [p.enc] (.isl 1 (mapE int p.bound)) := by
 have hcl := Pat.closed p
 have hcnt := Pat.nodes_len p
 have hs1 := hs.1
 obtain ⟨R, hR⟩ : ∃ R, R = p.bound := ⟨_, rfl⟩
 rw [← hR]
 unfold Pat.bound at hR
 obtain ⟨pcs, hpe⟩ := Pat.some_cells p
 have hpre := P_preorder p hpe
 obtain ⟨pO, pA, pT, pV, pS, pN, pCo, pCa, pCv, pCf, pCk, pXk, pXn, pXt, hx⟩ := Pat.form p
 rw [hx] at hcl hpe ⊢
 injection hpe with hpe
 subst hpe
 have hip : (AV.fn 71 [.iptr [int pO, .isl 14 pA, int pT, int pV, int pS, int pN, int pCo, .isl 8 pCa, int pCv, int pCf, int pCk, int pXk, int pXn, str pXt]]).closed = true := by simp only [closed_fn, AV.closedL, closed_iptr, Bool.and_true]; exact hcl
 have hpA : (AV.isl 14 pA).closed = true := by have := hcl; simp [AV.closed, AV.closedL] at this ⊢; exact this.1
 have hpCa : (AV.isl 8 pCa).closed = true := by have := hcl; simp [AV.closed, AV.closedL] at this ⊢; exact this.2
 have hnil : mapE int [] = [] := by rw [mapE_eq]; rfl
 refine wordsN ?_; unhygienic intros
 refine fn_body (fn := Tryz.f33) (n := 20) (ac := Tryzc33) (rvs := [.t 2]) rfl (by decide) Tryzp33 rfl rfl rfl ?_
 refine goA 60 ?_
 refine pcA hpre ?_
 refine goA 60 ?_
 refine on_ent (F' := [(6, .fn 71 [.iptr [int pO, .isl 14 pA, int pT, int pV, int pS, int pN, int pCo, .isl 8 pCa, int pCv, int pCf, int pCk, int pXk, int pXn, str pXt]]), (3, .ptr 0 0)]) (H' := [.cells [.val (.slice none 0 0)], .dead, .dead, .dead, .dead, .dead, .dead]) ?_ ?_
 · exact (ent_sub [.gone, .to 0] [some 1, none, none, none, none, none, none] ⟨trivial, ⟨by simp, rfl⟩, trivial⟩ ⟨osrc_cells (b := 1) rfl rfl rfl ⟨.refl _, trivial⟩, .dead, .dead, .dead, .dead, .dead, .dead, trivial⟩ ⟨.cl hip, .refl _, trivial⟩)
 refine on_preorder (fun d => .cells [.sl 8 1 0 (bndF d).length]) (fun _ => .dead) (fun _ => .dead) (fun _ => .dead) (fun _ => .dead) (fun _ => .dead) (fun _ => .dead) (fun d => .arr 1 (mapE int (bndF d))) (fun _ => .dead) (fun _ => True) p hs hx rfl rfl ⟨.cl hip, .ptr (by decide), trivial⟩ trivial ?_ (fun _ => .cells ⟨.sl (by decide), trivial⟩) (fun _ => .dead) (fun _ => .dead) (fun _ => .dead) (fun _ => .dead) (fun _ => .dead) (fun _ => .dead) (fun _ => .arr (closedL_int _)) (fun _ => .dead) (fun _ => ?_) (fun d q r hd _ => ?_)
 · have e : bndF [] = [] := rfl
   rw [e, hnil]
   exact (hent_sub [.to 0, .gone, .gone, .gone, .gone, .gone, .gone, .to 7] [some 0, some 1, some 2, some 3, some 4, some 5, some 6, some 7, none, none] rfl ⟨rfl, rfl, rfl, rfl, rfl, rfl, rfl, rfl, trivial⟩ (by simp) (by simp) ⟨⟨by simp, rfl⟩, trivial, trivial, trivial, trivial, trivial, trivial, ⟨by simp, rfl⟩, trivial⟩ ⟨osrc_cells (b := 0) rfl rfl rfl ⟨.nilS _ _ _ (by simp), trivial⟩, .dead, .dead, .dead, .dead, .dead, .dead, .some 7 _ _ rfl rfl rfl (.loop _ _ _ _ _ _ _ _ ⟨.cl hip, .refl _, trivial⟩), .none _ rfl, .dead, trivial⟩)
 · have hbl := bndF_len p.nodes
   have hR2 : mapE int R = (mapE int (compI (sortI (bndF p.nodes)))).take R.length := by
    rw [hR, compI, mapE_eq, mapE_eq, List.map_append, List.take_left' (by simp)]
   have hle : R.length ≤ (mapE int (compI (sortI (bndF p.nodes)))).length := by
    rw [hR, mapE_len, compI_len]; exact compact_le _
   have hss := C_Sort (bndF p.nodes) (by omega)
   have hcc := C_Compact (sortI (bndF p.nodes)) (by rw [sort_len]; omega)
   rw [← hR, sort_len] at hcc
   have c1 := closedL_int (bndF p.nodes)
   have c2 := closedL_int (sortI (bndF p.nodes))
   have c3 := closedL_int (compI (sortI (bndF p.nodes)))
   generalize R.length = rl at *
   generalize (bndF p.nodes).length = m1 at *
   generalize mapE int (compI (sortI (bndF p.nodes))) = w3 at *
   generalize mapE int (sortI (bndF p.nodes)) = w2 at *
   generalize mapE int (bndF p.nodes) = w1 at *
   generalize mapE int R = rs at *
   refine goA 60 ?_
   refine on_fcall [8] rfl rfl enters_slices_Sort___int_int_ hss (by decide) (by simp) (by show _ = [AObj.arr 1 (AV.subL _ w1)]; rw [subL_closed _ c1]) rfl ?_
   rintro v0 H' ⟨rfl, rfl⟩ -
   refine on_entO (F' := [(3, .ptr 0 0)]) (H' := [.cells [.sl 1 1 0 m1], .arr 1 w2]) ?_ ?_
   · exact (ent_sub [.to 0, .gone, .gone, .gone, .gone, .gone, .gone, .gone, .to 1, .gone] [some 0, some 8] ⟨⟨by simp, rfl⟩, trivial, trivial, trivial, trivial, trivial, trivial, trivial, ⟨by simp, rfl⟩, trivial, trivial⟩ ⟨osrc_cells (b := 0) rfl rfl rfl ⟨.refl _, trivial⟩, osrc_arr (b := 8) rfl rfl rfl (Go.Am.subL_closed _ c2) c2, trivial⟩ ⟨.refl _, trivial⟩)
   refine goA 60 ?_
   refine on_fcall [1] rfl rfl enters_slices_Compact___int_int_ hcc (by decide) (by simp) (by show _ = [AObj.arr 1 (AV.subL _ w2)]; rw [subL_closed _ c2]) rfl ?_
   rintro v0 H' ⟨rfl, rfl⟩ -
   refine on_entO (F' := [(19, .sl 0 1 0 rl)]) (H' := [.arr 1 w3]) ?_ ?_
   · exact (ent_sub [.gone, .to 0] [some 1] ⟨trivial, ⟨by simp, rfl⟩, trivial⟩ ⟨osrc_arr (b := 1) rfl rfl rfl (Go.Am.subL_closed _ c3) c3, trivial⟩ ⟨.refl _, trivial⟩)
   refine goA 60 ?_
   refine fn_ret rfl rfl ?_
   exact ⟨[.isl 1 w3], ⟨⟨w3, rfl, (subL_closed _ c3).symm⟩, trivial⟩, .of (sub_part rfl (by simpa using hle) (by simpa using hR2.symm))⟩
 · have hqc := Pat.closed q
   have hdl : d.length < 1048576 := by have := congrArg List.length hd; simp at this; omega
   have hbl := bndF_len d
   have e1 := bndF_snoc d q
   generalize bndF (d ++ [q]) = b2 at *
   generalize bndF d = b1 at *
   obtain ⟨qO, qA, qT, qV, qS, qN, qCo, qCa, qCv, qCf, qCk, qXk, qXn, qXt, hx2, hx2c, hqO, hqA, hqT, hqV, hqS, hqN⟩ := Pat.form2 q
   rw [hx2] at hqc ⊢
   simp only [← hqO, ← hqV, ← hqS] at *
   clear hx2 hx2c hqO hqA hqT hqV hqS hqN
   by_cases hq0 : qO = 0
   · have k1 : iEq qO 0 = true := by simp only [ee]; simpa using hq0
     rw [if_pos hq0] at e1
     have e2 : mapE int b2 = mapE int b1 ++ [int qV] := by rw [e1, mapE_eq, mapE_eq, List.map_append]; rfl
     have e3 : b2.length = b1.length + 1 := by rw [e1]; simp
     have hml : (mapE int b1).length = b1.length := mapE_len ..
     have hcb := closedL_int b1
     generalize b2.length = m2 at *
     generalize b1.length = m1 at *
     generalize mapE int b2 = w2 at *
     generalize mapE int b1 = w1 at *
     have e4 : w2 = catA (dropA w1 0) (partA [int qV] 0 1) := by simp only [ee]; simpa using e2
     have e5 : m2 = addN m1 (lenN (partA [int qV] 0 1)) := by simp only [ee]; simpa using e3
     have hcb2 : AV.closedL (catA (dropA w1 0) (partA [int qV] 0 1)) = true := by simp only [ee]; exact closedL_append (by simpa using hcb) rfl
     clear e2 e3 e1
     subst e4 e5
     refine goA 60 ?_
     refine rnd_assign rfl ?_
     refine goB hX 0 (by conv => lhs; cbv; try simp only [k1]; cbv; try simp only [k1]; cbv; try simp only [k1]; cbv; try simp only [k1]; cbv) ?_
     refine goA 60 ?_
     exact rnd_next rfl trivial (hent_sub [.to 0, .gone, .gone, .gone, .gone, .gone, .gone, .to 7, .gone, .gone, .gone, .gone, .to 8] [some 0, some 1, some 2, some 3, some 4, some 5, some 6, some 7, some 12, none] rfl ⟨rfl, rfl, rfl, rfl, rfl, rfl, rfl, rfl, trivial⟩ (by simp) (by simp) ⟨⟨by simp, rfl⟩, trivial, trivial, trivial, trivial, trivial, trivial, ⟨by simp, rfl⟩, trivial, trivial, trivial, trivial, ⟨by simp, rfl⟩, trivial⟩ ⟨osrc_cells (b := 0) rfl rfl rfl ⟨.refl _, trivial⟩, .dead, .dead, .dead, .dead, .dead, .dead, .some 7 _ _ rfl rfl rfl (.loop _ _ _ _ _ _ _ _ ⟨.cl hip, .refl _, trivial⟩), osrc_arr (b := 12) rfl rfl rfl rfl hcb2, .dead, trivial⟩)
   · have k1 : iEq qO 0 = false := by simp only [ee]; simpa using hq0
     rw [if_neg hq0] at e1
     rw [e1]
     have hcb := closedL_int b1
     generalize b1.length = m1 at *
     generalize mapE int b1 = w1 at *
     refine goA 60 ?_
     refine rnd_assign rfl ?_
     refine goB hX 0 (by conv => lhs; cbv; try simp only [k1]; cbv; try simp only [k1]; cbv; try simp only [k1]; cbv; try simp only [k1]; cbv) ?_
     refine goA 60 ?_
     exact rnd_next rfl trivial (hent_sub [.to 0, .gone, .gone, .gone, .gone, .gone, .gone, .to 7, .to 8, .gone, .gone] [some 0, some 1, some 2, some 3, some 4, some 5, some 6, some 7, some 8, none] rfl ⟨rfl, rfl, rfl, rfl, rfl, rfl, rfl, rfl, trivial⟩ (by simp) (by simp) ⟨⟨by simp, rfl⟩, trivial, trivial, trivial, trivial, trivial, trivial, ⟨by simp, rfl⟩, ⟨by simp, rfl⟩, trivial, trivial, trivial⟩ ⟨osrc_cells (b := 0) rfl rfl rfl ⟨.refl _, trivial⟩, .dead, .dead, .dead, .dead, .dead, .dead, .some 7 _ _ rfl rfl rfl (.loop _ _ _ _ _ _ _ _ ⟨.cl hip, .refl _, trivial⟩), osrc_arr (b := 8) rfl rfl rfl rfl hcb, .dead, trivial⟩)
mutual
def Ex.tot (lim : Nat) : Ex → Nat
 | .mk _ a _ _ _ _ => Ex.totL lim 1 a
def Ex.totL (lim : Nat) : Nat → List Ex → Nat
 | n, [] => n
 | n, e :: r => if n ≤ lim then Ex.totL lim (n + e.tot lim) r else n
end
theorem Ex.totL_le {lim : Nat} {l : List Ex} (h : ∀ e ∈ l, e.tot lim ≤ e.cnt) : ∀ n, Ex.totL lim n l ≤ n + Ex.cntL l := by
 induction l with
 | nil => intro n; simp [Ex.totL]
 | cons e r ih =>
  intro n
  have h1 := h e (by simp)
  have h2 := ih (fun e he => h e (by simp [he])) (n + e.tot lim)
  simp only [Ex.totL, Ex.cntL]; split <;> omega
theorem Ex.tot_le (lim : Nat) : ∀ e : Ex, e.tot lim ≤ e.cnt := Ex.ind fun o a v f k x h => by
 have := Ex.totL_le h 1
 simp only [Ex.tot, Ex.cnt]; omega
theorem Ex.totL_eq {lim : Nat} {l : List Ex} (h : ∀ e ∈ l, e.cnt ≤ lim → e.tot lim = e.cnt) : ∀ n, n + Ex.cntL l ≤ lim → Ex.totL lim n l = n + Ex.cntL l := by
 induction l with
 | nil => intro n _; simp [Ex.totL, Ex.cntL]
 | cons e r ih =>
  intro n hn
  simp only [Ex.cntL] at hn ⊢
  have h1 := h e (by simp) (by omega)
  rw [Ex.totL, if_pos (by omega), ih (fun e he => h e (by simp [he])) _ (by omega)]; omega
theorem Ex.tot_eq {lim : Nat} : ∀ e : Ex, e.cnt ≤ lim → e.tot lim = e.cnt := Ex.ind fun o a v f k x h hl => by
 simp only [Ex.tot, Ex.cnt] at hl ⊢
 exact Ex.totL_eq h 1 hl
theorem Ex.totL_gt {lim : Nat} {l : List Ex} (h : ∀ e ∈ l, lim < e.cnt → lim < e.tot lim) : ∀ n, lim < n + Ex.cntL l → lim < Ex.totL lim n l := by
 induction l with
 | nil => intro n hn; simpa [Ex.totL, Ex.cntL] using hn
 | cons e r ih =>
  intro n hn
  simp only [Ex.cntL] at hn
  rw [Ex.totL]
  split
  · refine ih (fun e he => h e (by simp [he])) _ ?_
    by_cases hc : e.cnt ≤ lim
    · rw [Ex.tot_eq e hc]; omega
    · have := h e (by simp) (by omega); omega
  · omega
theorem Ex.tot_gt {lim : Nat} : ∀ e : Ex, lim < e.cnt → lim < e.tot lim := Ex.ind fun o a v f k x h hl => by
 simp only [Ex.tot, Ex.cnt] at hl ⊢
 exact Ex.totL_gt h 1 hl
theorem Ex.tot_iff (e : Ex) (lim : Nat) : e.tot lim ≤ lim ↔ e.cnt ≤ lim := by
 by_cases h : e.cnt ≤ lim
 · rw [Ex.tot_eq e h]
 · have := Ex.tot_gt (lim := lim) e (by omega); omega
theorem P_ref08_Count (lim : Nat) (hlim : lim ≤ 1099511627776) : ∀ p : Ex, p.Sm → PCall EE 56 [p.enc, int lim] (int (p.tot lim)) := by
 generalize hli : (lim : Int) = li
 refine Ex.ind ?_
 intro o a v f k x ih hs
 obtain ⟨xk, xn, xt⟩ := x
 have hlen := hs.len
 have hih : ∀ q ∈ a, PCall EE 56 [q.enc, int li] (int (q.tot lim)) := fun q hq => ih q hq (hs.arg hq)
 have hcl := Ex.closedI a
 have hcnt : Ex.cntL a ≤ 1048576 := by unfold Ex.Sm at hs; simp only [Ex.cnt] at hs; omega
 have hde := fun q : Ex => Ex.tot_le lim q
 simp only [Ex.tot]
 obtain ⟨R, hR⟩ : ∃ R, R = Ex.totL lim 1 a := ⟨_, rfl⟩
 rw [← hR, Ex.enc_mk]
 refine wordsN ?_; unhygienic intros
 generalize hes : mapE Ex.enc a = es at *
 have hel : es.length = a.length := by rw [← hes, mapE_len]
 refine fn_body (fn := Tryz.f56) (n := 29) (ac := Tryzc56) (rvs := [.t 4]) rfl (by decide) Tryzp56 rfl rfl rfl ?_
 refine goA 60 ?_
 refine on_loopP (ι := List Ex × List Ex × Int × Int) (fun p => ([(5, int p.2.2.2), (6, int p.2.2.1), (1, int li), (2, .ptr 0 0)], [.cells [int o, .isl 8 es, int v, int f, int k, int xk, int xn, str xt]])) (fun p => a = p.1 ++ p.2.1 ∧ p.2.2.1 = p.1.length ∧ p.2.2.2 ≤ 1 + Ex.cntL p.1 ∧ 0 ≤ p.2.2.2 ∧ R = Ex.totL lim p.2.2.2.toNat p.2.1) (fun p => p.2.1.length) ([], a, 0, 1) ⟨rfl, rfl, by simp [Ex.cntL], by simp, hR⟩ ?_ ?_
 · exact (ent_sub [.to 0] [some 0] ⟨⟨by simp, rfl⟩, trivial⟩ ⟨osrc_cells (b := 0) rfl rfl rfl ⟨.refl _, .cl hcl, .refl _, .refl _, .refl _, .refl _, .refl _, .refl _, trivial⟩, trivial⟩ ⟨.refl _, .refl _, .refl _, .refl _, trivial⟩)
 rintro ⟨d, r, i, nn⟩ ⟨g1, gi, gn, gp, gt⟩
 dsimp only at g1 gi gn gp gt ⊢
 have hnt : (nn.toNat : Int) = nn := Int.toNat_of_nonneg gp
 cases r with
 | nil =>
  have L1 := len_split g1
  try simp only [List.length_nil] at L1
  have hc : iLt i (lenA es) = false := lt_f e_iLt e_lenA (by omega)
  rw [Ex.totL] at gt
  have hv : nn = (R : Int) := by omega
  have hb : ∀ b, bAnd false b = false := by simp [ee]
  refine goB hX 0 (by conv => lhs; cbv; try simp only [hc, hb]; cbv; try simp only [hc, hb]; cbv; try simp only [hc, hb]; cbv; try simp only [hc, hb]; cbv) ?_
  refine goA 60 ?_
  refine loopP_exit ?_
  refine goA 60 ?_
  refine fn_ret rfl rfl (.val ?_)
  exact congrArg (Value.int .i64) hv
 | cons q r =>
  have L1 := len_split g1
  try simp only [List.length_cons] at L1
  have hc : iLt i (lenA es) = true := lt_t e_iLt e_lenA (by omega)
  have hat := el_at e_atA hes g1 gi
  have hq := hih q (by rw [g1]; simp)
  have hqc := Ex.closed q
  have hqd := hde q
  rw [g1, Ex.cntL_append, Ex.cntL] at hcnt
  obtain ⟨qO, qA, qV, qF, qK, qXk, qXn, qXt, hx⟩ := Ex.form q
  rw [hx] at hq hat hqc
  have hb : ∀ b, bAnd true b = b := by simp [ee]
  rw [Ex.totL] at gt
  by_cases hle : nn ≤ li
  · have h2 : iLe nn li = true := by simp [ee]; omega
    rw [if_pos (by omega)] at gt
    generalize hqn : (q.tot lim : Int) = qn at hq
    have hn2 : iAdd .i64 nn qn = nn + qn := add_w e_iAdd (by omega) (by omega)
    have hi2 : iAdd .i64 i 1 = ((d ++ [q]).length : Int) := by rw [List.length_append]; exact inc_w e_iAdd gi (by omega)
    have hn4 : iAdd .i64 nn qn ≤ 1 + Ex.cntL (d ++ [q]) ∧ 0 ≤ iAdd .i64 nn qn := by rw [Ex.cntL_append, Ex.cntL, Ex.cntL, hn2]; omega
    have hn3 : (iAdd .i64 nn qn).toNat = nn.toNat + q.tot lim := by omega
    refine goB hX 0 (by conv => lhs; cbv; try simp only [hc, hat, hb, h2]; cbv; try simp only [hc, hat, hb, h2]; cbv; try simp only [hc, hat, hb, h2]; cbv; try simp only [hc, hat, hb, h2]; cbv) ?_
    refine goB hX 1 (by conv => lhs; cbv; try simp only [hc, hat, hb, h2]; cbv; try simp only [hc, hat, hb, h2]; cbv; try simp only [hc, hat, hb, h2]; cbv; try simp only [hc, hat, hb, h2]; cbv) ?_
    refine pcA hq ?_
    refine goA 60 ?_
    refine loopP_next (d ++ [q], r, iAdd .i64 i 1, iAdd .i64 nn qn) ⟨by simp [g1], hi2, hn4.1, hn4.2, hn3 ▸ gt⟩ (by simp) (ent_sub [.to 0] [some 0] ⟨⟨by simp, rfl⟩, trivial⟩ ⟨osrc_cells (b := 0) rfl rfl rfl ⟨.refl _, .cl hcl, .refl _, .refl _, .refl _, .refl _, .refl _, .refl _, trivial⟩, trivial⟩ ⟨.refl _, .refl _, .refl _, .refl _, trivial⟩)
  · have h2 : iLe nn li = false := by simp [ee]; omega
    rw [if_neg (by omega)] at gt
    have hv : nn = (R : Int) := by omega
    refine goB hX 0 (by conv => lhs; cbv; try simp only [hc, hat, hb, h2]; cbv; try simp only [hc, hat, hb, h2]; cbv; try simp only [hc, hat, hb, h2]; cbv; try simp only [hc, hat, hb, h2]; cbv) ?_
    refine goA 60 ?_
    refine loopP_exit ?_
    refine goA 60 ?_
    refine fn_ret rfl rfl (.val ?_)
    exact congrArg (Value.int .i64) hv
theorem P_ref08_Depth : ∀ p : Ex, p.Sm → PCall EE 57 [p.enc] (int p.dep) := by
 refine Ex.ind ?_
 intro o a v f k x ih hs
 obtain ⟨xk, xn, xt⟩ := x
 have hlen := hs.len
 have hih : ∀ q ∈ a, PCall EE 57 [q.enc] (int q.dep) := fun q hq => ih q hq (hs.arg hq)
 have hcl := Ex.closedI a
 have hcnt : Ex.cntL a ≤ 1048576 := by unfold Ex.Sm at hs; simp only [Ex.cnt] at hs; omega
 have hde := fun q : Ex => Ex.dep_le q
 simp only [Ex.dep]
 obtain ⟨R, hR⟩ : ∃ R, R = Ex.depL 0 a := ⟨_, rfl⟩
 rw [← hR, Ex.enc_mk]
 refine wordsN ?_; unhygienic intros
 generalize hes : mapE Ex.enc a = es at *
 have hel : es.length = a.length := by rw [← hes, mapE_len]
 refine fn_body (fn := Tryz.f57) (n := 22) (ac := Tryzc57) (rvs := [.t 2]) rfl (by decide) Tryzp57 rfl rfl rfl ?_
 refine goA 60 ?_
 refine on_loopP (ι := List Ex × List Ex × Int × Int) (fun p => ([(3, int p.2.2.2), (4, int p.2.2.1), (1, .ptr 0 0)], [.cells [int o, .isl 8 es, int v, int f, int k, int xk, int xn, str xt]])) (fun p => a = p.1 ++ p.2.1 ∧ p.2.2.1 = p.1.length ∧ p.2.2.2 ≤ 1048576 ∧ 0 ≤ p.2.2.2 ∧ R = Ex.depL p.2.2.2.toNat p.2.1) (fun p => p.2.1.length) ([], a, 0, 0) ⟨rfl, rfl, by simp, by simp, hR⟩ ?_ ?_
 · exact (ent_sub [.to 0] [some 0] ⟨⟨by simp, rfl⟩, trivial⟩ ⟨osrc_cells (b := 0) rfl rfl rfl ⟨.refl _, .cl hcl, .refl _, .refl _, .refl _, .refl _, .refl _, .refl _, trivial⟩, trivial⟩ ⟨.refl _, .refl _, .refl _, trivial⟩)
 rintro ⟨d, r, i, dd⟩ ⟨g1, gi, gn, gp, gt⟩
 dsimp only at g1 gi gn gp gt ⊢
 cases r with
 | nil =>
  have L1 := len_split g1
  try simp only [List.length_nil] at L1
  have hc : iLt i (lenA es) = false := lt_f e_iLt e_lenA (by omega)
  rw [Ex.depL] at gt
  have ha1 : iAdd .i64 dd 1 = ((R + 1 : Nat) : Int) := by rw [add_w e_iAdd (by omega) (by omega)]; omega
  refine goB hX 0 (by conv => lhs; cbv; try simp only [hc]; cbv; try simp only [hc]; cbv; try simp only [hc]; cbv; try simp only [hc]; cbv) ?_
  refine goA 60 ?_
  refine loopP_exit ?_
  refine goA 60 ?_
  refine fn_ret rfl rfl (.val ?_)
  exact congrArg (Value.int .i64) ha1
 | cons q r =>
  have L1 := len_split g1
  try simp only [List.length_cons] at L1
  have hc : iLt i (lenA es) = true := lt_t e_iLt e_lenA (by omega)
  have hat := el_at e_atA hes g1 gi
  have hq := hih q (by rw [g1]; simp)
  have hqc := Ex.closed q
  have hqd := hde q
  rw [g1, Ex.cntL_append, Ex.cntL] at hcnt
  obtain ⟨qO, qA, qV, qF, qK, qXk, qXn, qXt, hx⟩ := Ex.form q
  rw [hx] at hq hat hqc
  rw [Ex.depL] at gt
  generalize hqn : (q.dep : Int) = qn at hq
  have hd2 : iMax dd qn = ((max dd.toNat q.dep : Nat) : Int) := by simp only [ee]; split <;> omega
  have hd3 : (iMax dd qn).toNat = max dd.toNat q.dep := by omega
  have hi2 : iAdd .i64 i 1 = ((d ++ [q]).length : Int) := by rw [List.length_append]; exact inc_w e_iAdd gi (by omega)
  refine goB hX 0 (by conv => lhs; cbv; try simp only [hc, hat]; cbv; try simp only [hc, hat]; cbv; try simp only [hc, hat]; cbv; try simp only [hc, hat]; cbv) ?_
  refine goB hX 1 (by conv => lhs; cbv; try simp only [hc, hat]; cbv; try simp only [hc, hat]; cbv; try simp only [hc, hat]; cbv; try simp only [hc, hat]; cbv) ?_
  refine pcA hq ?_
  refine goA 60 ?_
  refine loopP_next (d ++ [q], r, iAdd .i64 i 1, iMax dd qn) ⟨by simp [g1], hi2, by show iMax dd qn ≤ 1048576; omega, by show 0 ≤ iMax dd qn; omega, hd3 ▸ gt⟩ (by simp) (ent_sub [.to 0] [some 0] ⟨⟨by simp, rfl⟩, trivial⟩ ⟨osrc_cells (b := 0) rfl rfl rfl ⟨.refl _, .cl hcl, .refl _, .refl _, .refl _, .refl _, .refl _, .refl _, trivial⟩, trivial⟩ ⟨.refl _, .refl _, .refl _, trivial⟩)
theorem P_ref09_Depth : ∀ p : Pat, p.Sm → PCall EE 40 [p.enc] (int p.dep) := by
 refine Pat.ind ?_
 intro o a t v s n c ih hs
 obtain ⟨co, ca, cv, cf, ck, xk, xn, xt⟩ := c
 have hlen := hs.len
 have hih : ∀ q ∈ a, PCall EE 40 [q.enc] (int q.dep) := fun q hq => ih q hq (hs.arg hq)
 have hcl := Pat.closedI a
 have hce := Ex.closedI ca
 have hcnt : Pat.cntL a ≤ 1048576 := by have hs := hs.1; simp only [Pat.cnt] at hs; omega
 have hde := fun q : Pat => Pat.dep_le q
 simp only [Pat.dep]
 obtain ⟨R, hR⟩ : ∃ R, R = Pat.depL 0 a := ⟨_, rfl⟩
 rw [← hR, Pat.enc_mk]
 refine wordsN ?_; unhygienic intros
 generalize hes : mapE Pat.enc a = es at *
 generalize mapE Ex.enc ca = ec at *
 have hel : es.length = a.length := by rw [← hes, mapE_len]
 refine fn_body (fn := Tryz.f40) (n := 22) (ac := Tryzc40) (rvs := [.t 2]) rfl (by decide) Tryzp40 rfl rfl rfl ?_
 refine goA 60 ?_
 refine on_loopP (ι := List Pat × List Pat × Int × Int) (fun p => ([(3, int p.2.2.2), (4, int p.2.2.1), (1, .ptr 0 0)], [.cells [int o, .isl 14 es, int t, int v, int s, int n, int co, .isl 8 ec, int cv, int cf, int ck, int xk, int xn, str xt]])) (fun p => a = p.1 ++ p.2.1 ∧ p.2.2.1 = p.1.length ∧ p.2.2.2 ≤ 1048576 ∧ 0 ≤ p.2.2.2 ∧ R = Pat.depL p.2.2.2.toNat p.2.1) (fun p => p.2.1.length) ([], a, 0, 0) ⟨rfl, rfl, by simp, by simp, hR⟩ ?_ ?_
 · exact (ent_sub [.to 0] [some 0] ⟨⟨by simp, rfl⟩, trivial⟩ ⟨osrc_cells (b := 0) rfl rfl rfl ⟨.refl _, .cl hcl, .refl _, .refl _, .refl _, .refl _, .refl _, .cl hce, .refl _, .refl _, .refl _, .refl _, .refl _, .refl _, trivial⟩, trivial⟩ ⟨.refl _, .refl _, .refl _, trivial⟩)
 rintro ⟨d, r, i, dd⟩ ⟨g1, gi, gn, gp, gt⟩
 dsimp only at g1 gi gn gp gt ⊢
 cases r with
 | nil =>
  have L1 := len_split g1
  try simp only [List.length_nil] at L1
  have hc : iLt i (lenA es) = false := lt_f e_iLt e_lenA (by omega)
  rw [Pat.depL] at gt
  have ha1 : iAdd .i64 dd 1 = ((R + 1 : Nat) : Int) := by rw [add_w e_iAdd (by omega) (by omega)]; omega
  refine goB hX 0 (by conv => lhs; cbv; try simp only [hc]; cbv; try simp only [hc]; cbv; try simp only [hc]; cbv; try simp only [hc]; cbv) ?_
  refine goA 60 ?_
  refine loopP_exit ?_
  refine goA 60 ?_
  refine fn_ret rfl rfl (.val ?_)
  exact congrArg (Value.int .i64) ha1
 | cons q r =>
  have L1 := len_split g1
  try simp only [List.length_cons] at L1
  have hc : iLt i (lenA es) = true := lt_t e_iLt e_lenA (by omega)
  have hat := el_at e_atA hes g1 gi
  have hq := hih q (by rw [g1]; simp)
  have hqc := Pat.closed q
  have hqd := hde q
  rw [g1, Pat.cntL_append, Pat.cntL] at hcnt
  obtain ⟨qO, qA, qT, qV, qS, qN, qCo, qCa, qCv, qCf, qCk, qXk, qXn, qXt, hx⟩ := Pat.form q
  rw [hx] at hq hat hqc
  rw [Pat.depL] at gt
  generalize hqn : (q.dep : Int) = qn at hq
  have hd2 : iMax dd qn = ((max dd.toNat q.dep : Nat) : Int) := by simp only [ee]; split <;> omega
  have hd3 : (iMax dd qn).toNat = max dd.toNat q.dep := by omega
  have hi2 : iAdd .i64 i 1 = ((d ++ [q]).length : Int) := by rw [List.length_append]; exact inc_w e_iAdd gi (by omega)
  refine goB hX 0 (by conv => lhs; cbv; try simp only [hc, hat]; cbv; try simp only [hc, hat]; cbv; try simp only [hc, hat]; cbv; try simp only [hc, hat]; cbv) ?_
  refine goB hX 1 (by conv => lhs; cbv; try simp only [hc, hat]; cbv; try simp only [hc, hat]; cbv; try simp only [hc, hat]; cbv; try simp only [hc, hat]; cbv) ?_
  refine pcA hq ?_
  refine goA 60 ?_
  refine loopP_next (d ++ [q], r, iAdd .i64 i 1, iMax dd qn) ⟨by simp [g1], hi2, by show iMax dd qn ≤ 1048576; omega, by show 0 ≤ iMax dd qn; omega, hd3 ▸ gt⟩ (by simp) (ent_sub [.to 0] [some 0] ⟨⟨by simp, rfl⟩, trivial⟩ ⟨osrc_cells (b := 0) rfl rfl rfl ⟨.refl _, .cl hcl, .refl _, .refl _, .refl _, .refl _, .refl _, .cl hce, .refl _, .refl _, .refl _, .refl _, .refl _, .refl _, trivial⟩, trivial⟩ ⟨.refl _, .refl _, .refl _, trivial⟩)
def suitsR (k : Int) (v : Vl) : Bool := decide (v.kind = 0 ∨ k = 0 ∨ k = 4 ∨ k = 5)
theorem P_ref07_Suits (k : Int) (v : Vl) : PCall EE 102 [int k, v.enc] (bool (suitsR k v)) := by
 obtain ⟨R, hR⟩ : ∃ R, R = suitsR k v := ⟨_, rfl⟩
 rw [← hR]
 unfold suitsR at hR
 obtain ⟨xk, xn, xt⟩ := v
 dsimp only at hR
 show PCall EE _ [int k, .agg [int xk, int xn, str xt]] _
 refine wordsN ?_; unhygienic intros
 refine fn_body (fn := Tryz.f102) (n := 20) (ac := Tryzc102) (rvs := [.t 4]) rfl (by decide) Tryzp102 rfl rfl rfl ?_
 refine goA 60 ?_
 refine fn_ret rfl rfl (.val ?_)
 exact congrArg Value.bool (by rw [hR, Bool.eq_iff_iff]; simp only [ee]; simp [or_assoc])
theorem P_ref01_Check (v : Vl) : PCall EE 101 [v.enc] (int v.chk) := by
 obtain ⟨R, hR⟩ : ∃ R, R = v.chk := ⟨_, rfl⟩
 rw [← hR]
 have h0 : v.text = ⟨#[]⟩ ↔ v.text.toList = [] := by
  constructor
  · intro h; rw [h]; simp
  · intro h; exact bs_inj (by rw [h]; simp)
 have hz : v.text.toList = [] → (v.text.size : Int) = 0 := fun h => by rw [h0.2 h]; rfl
 unfold Vl.chk Vl.sizeE at hR
 obtain ⟨xk, xn, xt⟩ := v
 dsimp only at hR h0 hz
 simp only [ne_eq, h0] at hR
 show PCall EE _ [.agg [int xk, int xn, str xt]] _
 refine wordsN ?_; unhygienic intros
 have hsn : ∀ s : ByteArray, (s.toList == (ByteArray.mk #[]).toList) = decide (s.toList = []) := by
  intro s
  have hn : (ByteArray.mk #[]).toList = [] := by simp
  rw [hn]
  cases s.toList <;> rfl
 refine fn_body (fn := Tryz.f101) (n := 47) (ac := Tryzc101) (rvs := [.t 2]) rfl (by decide) Tryzp101 rfl rfl rfl ?_
 refine goA 0 ?_
 refine on_cond rfl (fun c1 => ?_) (fun c1 => ?_)
 ·
  simp [ee] at c1
  refine goA 60 ?_
  refine fn_ret rfl rfl (.val ?_)
  exact congrArg (Value.int .i64) (by rw [hR]; simp only [ee, hsn] at *; clear ee hX; grind)
 ·
  simp [ee] at c1
  refine goA 0 ?_
  refine on_cond rfl (fun c2 => ?_) (fun c2 => ?_)
  ·
   simp [ee] at c2
   refine goA 0 ?_
   refine on_cond rfl (fun c3 => ?_) (fun c3 => ?_)
   ·
    simp [ee] at c3
    refine goA 60 ?_
    refine fn_ret rfl rfl (.val ?_)
    exact congrArg (Value.int .i64) (by rw [hR]; simp only [ee, hsn] at *; clear ee hX; grind)
   ·
    simp [ee] at c3
    refine goA 0 ?_
    refine on_cond rfl (fun c4 => ?_) (fun c4 => ?_)
    ·
     simp [ee] at c4
     refine goA 60 ?_
     refine fn_ret rfl rfl (.val ?_)
     exact congrArg (Value.int .i64) (by rw [hR]; simp only [ee, hsn] at *; clear ee hX; grind)
    ·
     simp [ee] at c4
     refine goA 60 ?_
     refine fn_ret rfl rfl (.val ?_)
     exact congrArg (Value.int .i64) (by rw [hR]; simp only [ee, hsn] at *; clear ee hX; grind)
  ·
   simp [ee] at c2
   refine goA 0 ?_
   refine on_cond rfl (fun c5 => ?_) (fun c5 => ?_)
   ·
    simp [ee] at c5
    refine goA 60 ?_
    refine fn_ret rfl rfl (.val ?_)
    exact congrArg (Value.int .i64) (by rw [hR]; simp only [ee, hsn] at *; clear ee hX; grind)
   ·
    simp [ee] at c5
    refine goA 0 ?_
    refine nsB hX (by conv => lhs; cbv) ?_
    refine goA 0 ?_
    refine on_cond rfl (fun c6 => ?_) (fun c6 => ?_)
    ·
     simp [ee] at c6
     refine goA 60 ?_
     refine fn_ret rfl rfl (.val ?_)
     exact congrArg (Value.int .i64) (by rw [hR]; simp only [ee, hsn] at *; clear ee hX; grind)
    ·
     simp [ee] at c6
     refine goA 60 ?_
     refine fn_ret rfl rfl (.val ?_)
     exact congrArg (Value.int .i64) (by rw [hR]; simp only [ee, hsn] at *; clear ee hX; grind)
theorem P_ref08_uses (o : Int) : PCall EE 100 [int o] (.tup [bool (usesV o), bool (usesF o)]) := by
 obtain ⟨R, hR⟩ : ∃ R, R = usesV o := ⟨_, rfl⟩
 obtain ⟨R2, hR2⟩ : ∃ R, R = usesF o := ⟨_, rfl⟩
 rw [← hR, ← hR2]
 unfold usesV at hR
 unfold usesF at hR2
 refine wordsN ?_; unhygienic intros
 refine fn_body (fn := Tryz.f100) (n := 21) (ac := Tryzc100) (rvs := [.t 2, .t 3]) rfl (by decide) Tryzp100 rfl rfl rfl ?_
 refine goA 60 ?_
 refine fn_ret rfl rfl ?_
 exact Fz.none (.tup' ⟨.of (congrArg bool (by rw [hR, Bool.eq_iff_iff]; simp only [ee]; simp; omega)), .of (congrArg bool (by rw [hR2, Bool.eq_iff_iff]; simp only [ee]; simp)), trivial⟩)
def arityR (o : Int) : Int := if o < 0 ∨ 12 < o then -1 else if o < 5 then 0 else if o = 12 then 1 else 2
theorem P_ref08_arity (o : Int) : PCall EE 99 [int o] (int (arityR o)) := by
 obtain ⟨R, hR⟩ : ∃ R, R = arityR o := ⟨_, rfl⟩
 rw [← hR]
 unfold arityR at hR
 refine wordsN ?_; unhygienic intros
 refine fn_body (fn := Tryz.f99) (n := 20) (ac := Tryzc99) (rvs := [.t 2]) rfl (by decide) Tryzp99 rfl rfl rfl ?_
 refine goA 0 ?_
 refine on_cond rfl (fun c1 => ?_) (fun c1 => ?_)
 ·
  simp [ee] at c1
  refine goA 0 ?_
  refine on_cond rfl (fun c2 => ?_) (fun c2 => ?_)
  ·
   simp [ee] at c2
   refine goA 60 ?_
   refine fn_ret rfl rfl (.val ?_)
   exact congrArg (Value.int .i64) (by rw [hR]; (repeat' split) <;> first | rfl | omega)
  ·
   simp [ee] at c2
   refine goA 0 ?_
   refine on_cond rfl (fun c3 => ?_) (fun c3 => ?_)
   ·
    simp [ee] at c3
    refine goA 60 ?_
    refine fn_ret rfl rfl (.val ?_)
    exact congrArg (Value.int .i64) (by rw [hR]; (repeat' split) <;> first | rfl | omega)
   ·
    simp [ee] at c3
    refine goA 0 ?_
    refine on_cond rfl (fun c4 => ?_) (fun c4 => ?_)
    ·
     simp [ee] at c4
     refine goA 0 ?_
     refine on_cond rfl (fun c5 => ?_) (fun c5 => ?_)
     ·
      simp [ee] at c5
      refine goA 60 ?_
      refine fn_ret rfl rfl (.val ?_)
      exact congrArg (Value.int .i64) (by rw [hR]; (repeat' split) <;> first | rfl | omega)
     ·
      simp [ee] at c5
      refine goA 60 ?_
      refine fn_ret rfl rfl (.val ?_)
      exact congrArg (Value.int .i64) (by rw [hR]; (repeat' split) <;> first | rfl | omega)
    ·
     simp [ee] at c4
     refine goA 0 ?_
     refine on_cond rfl (fun c6 => ?_) (fun c6 => ?_)
     ·
      simp [ee] at c6
      refine goA 0 ?_
      refine on_cond rfl (fun c7 => ?_) (fun c7 => ?_)
      ·
       simp [ee] at c7
       refine goA 60 ?_
       refine fn_ret rfl rfl (.val ?_)
       exact congrArg (Value.int .i64) (by rw [hR]; (repeat' split) <;> first | rfl | omega)
      ·
       simp [ee] at c7
       refine goA 60 ?_
       refine fn_ret rfl rfl (.val ?_)
       exact congrArg (Value.int .i64) (by rw [hR]; (repeat' split) <;> first | rfl | omega)
     ·
      simp [ee] at c6
      refine goA 0 ?_
      refine on_cond rfl (fun c8 => ?_) (fun c8 => ?_)
      ·
       simp [ee] at c8
       refine goA 0 ?_
       refine on_cond rfl (fun c9 => ?_) (fun c9 => ?_)
       ·
        simp [ee] at c9
        refine goA 60 ?_
        refine fn_ret rfl rfl (.val ?_)
        exact congrArg (Value.int .i64) (by rw [hR]; (repeat' split) <;> first | rfl | omega)
       ·
        simp [ee] at c9
        refine goA 60 ?_
        refine fn_ret rfl rfl (.val ?_)
        exact congrArg (Value.int .i64) (by rw [hR]; (repeat' split) <;> first | rfl | omega)
      ·
       simp [ee] at c8
       refine goA 0 ?_
       refine on_cond rfl (fun c10 => ?_) (fun c10 => ?_)
       ·
        simp [ee] at c10
        refine goA 0 ?_
        refine on_cond rfl (fun c11 => ?_) (fun c11 => ?_)
        ·
         simp [ee] at c11
         refine goA 60 ?_
         refine fn_ret rfl rfl (.val ?_)
         exact congrArg (Value.int .i64) (by rw [hR]; (repeat' split) <;> first | rfl | omega)
        ·
         simp [ee] at c11
         refine goA 60 ?_
         refine fn_ret rfl rfl (.val ?_)
         exact congrArg (Value.int .i64) (by rw [hR]; (repeat' split) <;> first | rfl | omega)
       ·
        simp [ee] at c10
        refine goA 0 ?_
        refine on_cond rfl (fun c12 => ?_) (fun c12 => ?_)
        ·
         simp [ee] at c12
         refine goA 0 ?_
         refine on_cond rfl (fun c13 => ?_) (fun c13 => ?_)
         ·
          simp [ee] at c13
          refine goA 60 ?_
          refine fn_ret rfl rfl (.val ?_)
          exact congrArg (Value.int .i64) (by rw [hR]; (repeat' split) <;> first | rfl | omega)
         ·
          simp [ee] at c13
          refine goA 60 ?_
          refine fn_ret rfl rfl (.val ?_)
          exact congrArg (Value.int .i64) (by rw [hR]; (repeat' split) <;> first | rfl | omega)
        ·
         simp [ee] at c12
         refine goA 0 ?_
         refine on_cond rfl (fun c14 => ?_) (fun c14 => ?_)
         ·
          simp [ee] at c14
          refine goA 0 ?_
          refine on_cond rfl (fun c15 => ?_) (fun c15 => ?_)
          ·
           simp [ee] at c15
           refine goA 60 ?_
           refine fn_ret rfl rfl (.val ?_)
           exact congrArg (Value.int .i64) (by rw [hR]; (repeat' split) <;> first | rfl | omega)
          ·
           simp [ee] at c15
           refine goA 60 ?_
           refine fn_ret rfl rfl (.val ?_)
           exact congrArg (Value.int .i64) (by rw [hR]; (repeat' split) <;> first | rfl | omega)
         ·
          simp [ee] at c14
          refine goA 0 ?_
          refine on_cond rfl (fun c16 => ?_) (fun c16 => ?_)
          ·
           simp [ee] at c16
           refine goA 60 ?_
           refine fn_ret rfl rfl (.val ?_)
           exact congrArg (Value.int .i64) (by rw [hR]; (repeat' split) <;> first | rfl | omega)
          ·
           simp [ee] at c16
           refine goA 60 ?_
           refine fn_ret rfl rfl (.val ?_)
           exact congrArg (Value.int .i64) (by rw [hR]; (repeat' split) <;> first | rfl | omega)
 ·
  simp [ee] at c1
  refine goA 0 ?_
  refine on_cond rfl (fun c17 => ?_) (fun c17 => ?_)
  ·
   simp [ee] at c17
   refine goA 0 ?_
   refine on_cond rfl (fun c18 => ?_) (fun c18 => ?_)
   ·
    simp [ee] at c18
    refine goA 60 ?_
    refine fn_ret rfl rfl (.val ?_)
    exact congrArg (Value.int .i64) (by rw [hR]; (repeat' split) <;> first | rfl | omega)
   ·
    simp [ee] at c18
    refine goA 0 ?_
    refine on_cond rfl (fun c19 => ?_) (fun c19 => ?_)
    ·
     simp [ee] at c19
     refine goA 60 ?_
     refine fn_ret rfl rfl (.val ?_)
     exact congrArg (Value.int .i64) (by rw [hR]; (repeat' split) <;> first | rfl | omega)
    ·
     simp [ee] at c19
     refine goA 0 ?_
     refine on_cond rfl (fun c20 => ?_) (fun c20 => ?_)
     ·
      simp [ee] at c20
      refine goA 0 ?_
      refine on_cond rfl (fun c21 => ?_) (fun c21 => ?_)
      ·
       simp [ee] at c21
       refine goA 60 ?_
       refine fn_ret rfl rfl (.val ?_)
       exact congrArg (Value.int .i64) (by rw [hR]; (repeat' split) <;> first | rfl | omega)
      ·
       simp [ee] at c21
       refine goA 60 ?_
       refine fn_ret rfl rfl (.val ?_)
       exact congrArg (Value.int .i64) (by rw [hR]; (repeat' split) <;> first | rfl | omega)
     ·
      simp [ee] at c20
      refine goA 0 ?_
      refine on_cond rfl (fun c22 => ?_) (fun c22 => ?_)
      ·
       simp [ee] at c22
       refine goA 0 ?_
       refine on_cond rfl (fun c23 => ?_) (fun c23 => ?_)
       ·
        simp [ee] at c23
        refine goA 60 ?_
        refine fn_ret rfl rfl (.val ?_)
        exact congrArg (Value.int .i64) (by rw [hR]; (repeat' split) <;> first | rfl | omega)
       ·
        simp [ee] at c23
        refine goA 60 ?_
        refine fn_ret rfl rfl (.val ?_)
        exact congrArg (Value.int .i64) (by rw [hR]; (repeat' split) <;> first | rfl | omega)
      ·
       simp [ee] at c22
       refine goA 0 ?_
       refine on_cond rfl (fun c24 => ?_) (fun c24 => ?_)
       ·
        simp [ee] at c24
        refine goA 0 ?_
        refine on_cond rfl (fun c25 => ?_) (fun c25 => ?_)
        ·
         simp [ee] at c25
         refine goA 60 ?_
         refine fn_ret rfl rfl (.val ?_)
         exact congrArg (Value.int .i64) (by rw [hR]; (repeat' split) <;> first | rfl | omega)
        ·
         simp [ee] at c25
         refine goA 60 ?_
         refine fn_ret rfl rfl (.val ?_)
         exact congrArg (Value.int .i64) (by rw [hR]; (repeat' split) <;> first | rfl | omega)
       ·
        simp [ee] at c24
        refine goA 0 ?_
        refine on_cond rfl (fun c26 => ?_) (fun c26 => ?_)
        ·
         simp [ee] at c26
         refine goA 0 ?_
         refine on_cond rfl (fun c27 => ?_) (fun c27 => ?_)
         ·
          simp [ee] at c27
          refine goA 60 ?_
          refine fn_ret rfl rfl (.val ?_)
          exact congrArg (Value.int .i64) (by rw [hR]; (repeat' split) <;> first | rfl | omega)
         ·
          simp [ee] at c27
          refine goA 60 ?_
          refine fn_ret rfl rfl (.val ?_)
          exact congrArg (Value.int .i64) (by rw [hR]; (repeat' split) <;> first | rfl | omega)
        ·
         simp [ee] at c26
         refine goA 0 ?_
         refine on_cond rfl (fun c28 => ?_) (fun c28 => ?_)
         ·
          simp [ee] at c28
          refine goA 0 ?_
          refine on_cond rfl (fun c29 => ?_) (fun c29 => ?_)
          ·
           simp [ee] at c29
           refine goA 60 ?_
           refine fn_ret rfl rfl (.val ?_)
           exact congrArg (Value.int .i64) (by rw [hR]; (repeat' split) <;> first | rfl | omega)
          ·
           simp [ee] at c29
           refine goA 60 ?_
           refine fn_ret rfl rfl (.val ?_)
           exact congrArg (Value.int .i64) (by rw [hR]; (repeat' split) <;> first | rfl | omega)
         ·
          simp [ee] at c28
          refine goA 0 ?_
          refine on_cond rfl (fun c30 => ?_) (fun c30 => ?_)
          ·
           simp [ee] at c30
           refine goA 0 ?_
           refine on_cond rfl (fun c31 => ?_) (fun c31 => ?_)
           ·
            simp [ee] at c31
            refine goA 60 ?_
            refine fn_ret rfl rfl (.val ?_)
            exact congrArg (Value.int .i64) (by rw [hR]; (repeat' split) <;> first | rfl | omega)
           ·
            simp [ee] at c31
            refine goA 60 ?_
            refine fn_ret rfl rfl (.val ?_)
            exact congrArg (Value.int .i64) (by rw [hR]; (repeat' split) <;> first | rfl | omega)
          ·
           simp [ee] at c30
           refine goA 0 ?_
           refine on_cond rfl (fun c32 => ?_) (fun c32 => ?_)
           ·
            simp [ee] at c32
            refine goA 60 ?_
            refine fn_ret rfl rfl (.val ?_)
            exact congrArg (Value.int .i64) (by rw [hR]; (repeat' split) <;> first | rfl | omega)
           ·
            simp [ee] at c32
            refine goA 60 ?_
            refine fn_ret rfl rfl (.val ?_)
            exact congrArg (Value.int .i64) (by rw [hR]; (repeat' split) <;> first | rfl | omega)
  ·
   simp [ee] at c17
   refine goA 0 ?_
   refine on_cond rfl (fun c33 => ?_) (fun c33 => ?_)
   ·
    simp [ee] at c33
    refine goA 0 ?_
    refine on_cond rfl (fun c34 => ?_) (fun c34 => ?_)
    ·
     simp [ee] at c34
     refine goA 60 ?_
     refine fn_ret rfl rfl (.val ?_)
     exact congrArg (Value.int .i64) (by rw [hR]; (repeat' split) <;> first | rfl | omega)
    ·
     simp [ee] at c34
     refine goA 0 ?_
     refine on_cond rfl (fun c35 => ?_) (fun c35 => ?_)
     ·
      simp [ee] at c35
      refine goA 60 ?_
      refine fn_ret rfl rfl (.val ?_)
      exact congrArg (Value.int .i64) (by rw [hR]; (repeat' split) <;> first | rfl | omega)
     ·
      simp [ee] at c35
      refine goA 0 ?_
      refine on_cond rfl (fun c36 => ?_) (fun c36 => ?_)
      ·
       simp [ee] at c36
       refine goA 0 ?_
       refine on_cond rfl (fun c37 => ?_) (fun c37 => ?_)
       ·
        simp [ee] at c37
        refine goA 60 ?_
        refine fn_ret rfl rfl (.val ?_)
        exact congrArg (Value.int .i64) (by rw [hR]; (repeat' split) <;> first | rfl | omega)
       ·
        simp [ee] at c37
        refine goA 60 ?_
        refine fn_ret rfl rfl (.val ?_)
        exact congrArg (Value.int .i64) (by rw [hR]; (repeat' split) <;> first | rfl | omega)
      ·
       simp [ee] at c36
       refine goA 0 ?_
       refine on_cond rfl (fun c38 => ?_) (fun c38 => ?_)
       ·
        simp [ee] at c38
        refine goA 0 ?_
        refine on_cond rfl (fun c39 => ?_) (fun c39 => ?_)
        ·
         simp [ee] at c39
         refine goA 60 ?_
         refine fn_ret rfl rfl (.val ?_)
         exact congrArg (Value.int .i64) (by rw [hR]; (repeat' split) <;> first | rfl | omega)
        ·
         simp [ee] at c39
         refine goA 60 ?_
         refine fn_ret rfl rfl (.val ?_)
         exact congrArg (Value.int .i64) (by rw [hR]; (repeat' split) <;> first | rfl | omega)
       ·
        simp [ee] at c38
        refine goA 0 ?_
        refine on_cond rfl (fun c40 => ?_) (fun c40 => ?_)
        ·
         simp [ee] at c40
         refine goA 0 ?_
         refine on_cond rfl (fun c41 => ?_) (fun c41 => ?_)
         ·
          simp [ee] at c41
          refine goA 60 ?_
          refine fn_ret rfl rfl (.val ?_)
          exact congrArg (Value.int .i64) (by rw [hR]; (repeat' split) <;> first | rfl | omega)
         ·
          simp [ee] at c41
          refine goA 60 ?_
          refine fn_ret rfl rfl (.val ?_)
          exact congrArg (Value.int .i64) (by rw [hR]; (repeat' split) <;> first | rfl | omega)
        ·
         simp [ee] at c40
         refine goA 0 ?_
         refine on_cond rfl (fun c42 => ?_) (fun c42 => ?_)
         ·
          simp [ee] at c42
          refine goA 0 ?_
          refine on_cond rfl (fun c43 => ?_) (fun c43 => ?_)
          ·
           simp [ee] at c43
           refine goA 60 ?_
           refine fn_ret rfl rfl (.val ?_)
           exact congrArg (Value.int .i64) (by rw [hR]; (repeat' split) <;> first | rfl | omega)
          ·
           simp [ee] at c43
           refine goA 60 ?_
           refine fn_ret rfl rfl (.val ?_)
           exact congrArg (Value.int .i64) (by rw [hR]; (repeat' split) <;> first | rfl | omega)
         ·
          simp [ee] at c42
          refine goA 0 ?_
          refine on_cond rfl (fun c44 => ?_) (fun c44 => ?_)
          ·
           simp [ee] at c44
           refine goA 0 ?_
           refine on_cond rfl (fun c45 => ?_) (fun c45 => ?_)
           ·
            simp [ee] at c45
            refine goA 60 ?_
            refine fn_ret rfl rfl (.val ?_)
            exact congrArg (Value.int .i64) (by rw [hR]; (repeat' split) <;> first | rfl | omega)
           ·
            simp [ee] at c45
            refine goA 60 ?_
            refine fn_ret rfl rfl (.val ?_)
            exact congrArg (Value.int .i64) (by rw [hR]; (repeat' split) <;> first | rfl | omega)
          ·
           simp [ee] at c44
           refine goA 0 ?_
           refine on_cond rfl (fun c46 => ?_) (fun c46 => ?_)
           ·
            simp [ee] at c46
            refine goA 0 ?_
            refine on_cond rfl (fun c47 => ?_) (fun c47 => ?_)
            ·
             simp [ee] at c47
             refine goA 60 ?_
             refine fn_ret rfl rfl (.val ?_)
             exact congrArg (Value.int .i64) (by rw [hR]; (repeat' split) <;> first | rfl | omega)
            ·
             simp [ee] at c47
             refine goA 60 ?_
             refine fn_ret rfl rfl (.val ?_)
             exact congrArg (Value.int .i64) (by rw [hR]; (repeat' split) <;> first | rfl | omega)
           ·
            simp [ee] at c46
            refine goA 0 ?_
            refine on_cond rfl (fun c48 => ?_) (fun c48 => ?_)
            ·
             simp [ee] at c48
             refine goA 60 ?_
             refine fn_ret rfl rfl (.val ?_)
             exact congrArg (Value.int .i64) (by rw [hR]; (repeat' split) <;> first | rfl | omega)
            ·
             simp [ee] at c48
             refine goA 60 ?_
             refine fn_ret rfl rfl (.val ?_)
             exact congrArg (Value.int .i64) (by rw [hR]; (repeat' split) <;> first | rfl | omega)
   ·
    simp [ee] at c33
    refine goA 0 ?_
    refine on_cond rfl (fun c49 => ?_) (fun c49 => ?_)
    ·
     simp [ee] at c49
     refine goA 0 ?_
     refine on_cond rfl (fun c50 => ?_) (fun c50 => ?_)
     ·
      simp [ee] at c50
      refine goA 60 ?_
      refine fn_ret rfl rfl (.val ?_)
      exact congrArg (Value.int .i64) (by rw [hR]; (repeat' split) <;> first | rfl | omega)
     ·
      simp [ee] at c50
      refine goA 0 ?_
      refine on_cond rfl (fun c51 => ?_) (fun c51 => ?_)
      ·
       simp [ee] at c51
       refine goA 60 ?_
       refine fn_ret rfl rfl (.val ?_)
       exact congrArg (Value.int .i64) (by rw [hR]; (repeat' split) <;> first | rfl | omega)
      ·
       simp [ee] at c51
       refine goA 0 ?_
       refine on_cond rfl (fun c52 => ?_) (fun c52 => ?_)
       ·
        simp [ee] at c52
        refine goA 0 ?_
        refine on_cond rfl (fun c53 => ?_) (fun c53 => ?_)
        ·
         simp [ee] at c53
         refine goA 60 ?_
         refine fn_ret rfl rfl (.val ?_)
         exact congrArg (Value.int .i64) (by rw [hR]; (repeat' split) <;> first | rfl | omega)
        ·
         simp [ee] at c53
         refine goA 60 ?_
         refine fn_ret rfl rfl (.val ?_)
         exact congrArg (Value.int .i64) (by rw [hR]; (repeat' split) <;> first | rfl | omega)
       ·
        simp [ee] at c52
        refine goA 0 ?_
        refine on_cond rfl (fun c54 => ?_) (fun c54 => ?_)
        ·
         simp [ee] at c54
         refine goA 0 ?_
         refine on_cond rfl (fun c55 => ?_) (fun c55 => ?_)
         ·
          simp [ee] at c55
          refine goA 60 ?_
          refine fn_ret rfl rfl (.val ?_)
          exact congrArg (Value.int .i64) (by rw [hR]; (repeat' split) <;> first | rfl | omega)
         ·
          simp [ee] at c55
          refine goA 60 ?_
          refine fn_ret rfl rfl (.val ?_)
          exact congrArg (Value.int .i64) (by rw [hR]; (repeat' split) <;> first | rfl | omega)
        ·
         simp [ee] at c54
         refine goA 0 ?_
         refine on_cond rfl (fun c56 => ?_) (fun c56 => ?_)
         ·
          simp [ee] at c56
          refine goA 0 ?_
          refine on_cond rfl (fun c57 => ?_) (fun c57 => ?_)
          ·
           simp [ee] at c57
           refine goA 60 ?_
           refine fn_ret rfl rfl (.val ?_)
           exact congrArg (Value.int .i64) (by rw [hR]; (repeat' split) <;> first | rfl | omega)
          ·
           simp [ee] at c57
           refine goA 60 ?_
           refine fn_ret rfl rfl (.val ?_)
           exact congrArg (Value.int .i64) (by rw [hR]; (repeat' split) <;> first | rfl | omega)
         ·
          simp [ee] at c56
          refine goA 0 ?_
          refine on_cond rfl (fun c58 => ?_) (fun c58 => ?_)
          ·
           simp [ee] at c58
           refine goA 0 ?_
           refine on_cond rfl (fun c59 => ?_) (fun c59 => ?_)
           ·
            simp [ee] at c59
            refine goA 60 ?_
            refine fn_ret rfl rfl (.val ?_)
            exact congrArg (Value.int .i64) (by rw [hR]; (repeat' split) <;> first | rfl | omega)
           ·
            simp [ee] at c59
            refine goA 60 ?_
            refine fn_ret rfl rfl (.val ?_)
            exact congrArg (Value.int .i64) (by rw [hR]; (repeat' split) <;> first | rfl | omega)
          ·
           simp [ee] at c58
           refine goA 0 ?_
           refine on_cond rfl (fun c60 => ?_) (fun c60 => ?_)
           ·
            simp [ee] at c60
            refine goA 0 ?_
            refine on_cond rfl (fun c61 => ?_) (fun c61 => ?_)
            ·
             simp [ee] at c61
             refine goA 60 ?_
             refine fn_ret rfl rfl (.val ?_)
             exact congrArg (Value.int .i64) (by rw [hR]; (repeat' split) <;> first | rfl | omega)
            ·
             simp [ee] at c61
             refine goA 60 ?_
             refine fn_ret rfl rfl (.val ?_)
             exact congrArg (Value.int .i64) (by rw [hR]; (repeat' split) <;> first | rfl | omega)
           ·
            simp [ee] at c60
            refine goA 0 ?_
            refine on_cond rfl (fun c62 => ?_) (fun c62 => ?_)
            ·
             simp [ee] at c62
             refine goA 0 ?_
             refine on_cond rfl (fun c63 => ?_) (fun c63 => ?_)
             ·
              simp [ee] at c63
              refine goA 60 ?_
              refine fn_ret rfl rfl (.val ?_)
              exact congrArg (Value.int .i64) (by rw [hR]; (repeat' split) <;> first | rfl | omega)
             ·
              simp [ee] at c63
              refine goA 60 ?_
              refine fn_ret rfl rfl (.val ?_)
              exact congrArg (Value.int .i64) (by rw [hR]; (repeat' split) <;> first | rfl | omega)
            ·
             simp [ee] at c62
             refine goA 0 ?_
             refine on_cond rfl (fun c64 => ?_) (fun c64 => ?_)
             ·
              simp [ee] at c64
              refine goA 60 ?_
              refine fn_ret rfl rfl (.val ?_)
              exact congrArg (Value.int .i64) (by rw [hR]; (repeat' split) <;> first | rfl | omega)
             ·
              simp [ee] at c64
              refine goA 60 ?_
              refine fn_ret rfl rfl (.val ?_)
              exact congrArg (Value.int .i64) (by rw [hR]; (repeat' split) <;> first | rfl | omega)
    ·
     simp [ee] at c49
     refine goA 0 ?_
     refine on_cond rfl (fun c65 => ?_) (fun c65 => ?_)
     ·
      simp [ee] at c65
      refine goA 60 ?_
      refine fn_ret rfl rfl (.val ?_)
      exact congrArg (Value.int .i64) (by rw [hR]; (repeat' split) <;> first | rfl | omega)
     ·
      simp [ee] at c65
      refine goA 0 ?_
      refine on_cond rfl (fun c66 => ?_) (fun c66 => ?_)
      ·
       simp [ee] at c66
       refine goA 60 ?_
       refine fn_ret rfl rfl (.val ?_)
       exact congrArg (Value.int .i64) (by rw [hR]; (repeat' split) <;> first | rfl | omega)
      ·
       simp [ee] at c66
       refine goA 0 ?_
       refine on_cond rfl (fun c67 => ?_) (fun c67 => ?_)
       ·
        simp [ee] at c67
        refine goA 0 ?_
        refine on_cond rfl (fun c68 => ?_) (fun c68 => ?_)
        ·
         simp [ee] at c68
         refine goA 60 ?_
         refine fn_ret rfl rfl (.val ?_)
         exact congrArg (Value.int .i64) (by rw [hR]; (repeat' split) <;> first | rfl | omega)
        ·
         simp [ee] at c68
         refine goA 60 ?_
         refine fn_ret rfl rfl (.val ?_)
         exact congrArg (Value.int .i64) (by rw [hR]; (repeat' split) <;> first | rfl | omega)
       ·
        simp [ee] at c67
        refine goA 0 ?_
        refine on_cond rfl (fun c69 => ?_) (fun c69 => ?_)
        ·
         simp [ee] at c69
         refine goA 0 ?_
         refine on_cond rfl (fun c70 => ?_) (fun c70 => ?_)
         ·
          simp [ee] at c70
          refine goA 60 ?_
          refine fn_ret rfl rfl (.val ?_)
          exact congrArg (Value.int .i64) (by rw [hR]; (repeat' split) <;> first | rfl | omega)
         ·
          simp [ee] at c70
          refine goA 60 ?_
          refine fn_ret rfl rfl (.val ?_)
          exact congrArg (Value.int .i64) (by rw [hR]; (repeat' split) <;> first | rfl | omega)
        ·
         simp [ee] at c69
         refine goA 0 ?_
         refine on_cond rfl (fun c71 => ?_) (fun c71 => ?_)
         ·
          simp [ee] at c71
          refine goA 0 ?_
          refine on_cond rfl (fun c72 => ?_) (fun c72 => ?_)
          ·
           simp [ee] at c72
           refine goA 60 ?_
           refine fn_ret rfl rfl (.val ?_)
           exact congrArg (Value.int .i64) (by rw [hR]; (repeat' split) <;> first | rfl | omega)
          ·
           simp [ee] at c72
           refine goA 60 ?_
           refine fn_ret rfl rfl (.val ?_)
           exact congrArg (Value.int .i64) (by rw [hR]; (repeat' split) <;> first | rfl | omega)
         ·
          simp [ee] at c71
          refine goA 0 ?_
          refine on_cond rfl (fun c73 => ?_) (fun c73 => ?_)
          ·
           simp [ee] at c73
           refine goA 0 ?_
           refine on_cond rfl (fun c74 => ?_) (fun c74 => ?_)
           ·
            simp [ee] at c74
            refine goA 60 ?_
            refine fn_ret rfl rfl (.val ?_)
            exact congrArg (Value.int .i64) (by rw [hR]; (repeat' split) <;> first | rfl | omega)
           ·
            simp [ee] at c74
            refine goA 60 ?_
            refine fn_ret rfl rfl (.val ?_)
            exact congrArg (Value.int .i64) (by rw [hR]; (repeat' split) <;> first | rfl | omega)
          ·
           simp [ee] at c73
           refine goA 0 ?_
           refine on_cond rfl (fun c75 => ?_) (fun c75 => ?_)
           ·
            simp [ee] at c75
            refine goA 0 ?_
            refine on_cond rfl (fun c76 => ?_) (fun c76 => ?_)
            ·
             simp [ee] at c76
             refine goA 60 ?_
             refine fn_ret rfl rfl (.val ?_)
             exact congrArg (Value.int .i64) (by rw [hR]; (repeat' split) <;> first | rfl | omega)
            ·
             simp [ee] at c76
             refine goA 60 ?_
             refine fn_ret rfl rfl (.val ?_)
             exact congrArg (Value.int .i64) (by rw [hR]; (repeat' split) <;> first | rfl | omega)
           ·
            simp [ee] at c75
            refine goA 0 ?_
            refine on_cond rfl (fun c77 => ?_) (fun c77 => ?_)
            ·
             simp [ee] at c77
             refine goA 0 ?_
             refine on_cond rfl (fun c78 => ?_) (fun c78 => ?_)
             ·
              simp [ee] at c78
              refine goA 60 ?_
              refine fn_ret rfl rfl (.val ?_)
              exact congrArg (Value.int .i64) (by rw [hR]; (repeat' split) <;> first | rfl | omega)
             ·
              simp [ee] at c78
              refine goA 60 ?_
              refine fn_ret rfl rfl (.val ?_)
              exact congrArg (Value.int .i64) (by rw [hR]; (repeat' split) <;> first | rfl | omega)
            ·
             simp [ee] at c77
             refine goA 0 ?_
             refine on_cond rfl (fun c79 => ?_) (fun c79 => ?_)
             ·
              simp [ee] at c79
              refine goA 60 ?_
              refine fn_ret rfl rfl (.val ?_)
              exact congrArg (Value.int .i64) (by rw [hR]; (repeat' split) <;> first | rfl | omega)
             ·
              simp [ee] at c79
              refine goA 60 ?_
              refine fn_ret rfl rfl (.val ?_)
              exact congrArg (Value.int .i64) (by rw [hR]; (repeat' split) <;> first | rfl | omega)
theorem P_ref08_node (e : Ex) (hlen : e.args.length < 1048576) : PCall EE 78 [e.enc] (int e.nodeE) := by
 have hu := P_ref08_uses e.op
 have har := P_ref08_arity e.op
 have hk := P_ref01_Check e.val
 have hsu := P_ref07_Suits e.kind e.val
 have h0 := @Vl.eq0 e.val
 have hcl := Ex.closed e
 obtain ⟨R, hR⟩ : ∃ R, R = e.nodeE := ⟨_, rfl⟩
 rw [← hR]
 have hss : 1 ≤ e.kind → suitsF e.kind e.val = suitsR e.kind e.val := fun h => by
  unfold suitsF suitsR; rw [Bool.eq_iff_iff]; simp; omega
 have hab : arityB e.op = decide (0 ≤ arityR e.op) := by
  unfold arityB arityR; rw [Bool.eq_iff_iff]; simp; (repeat' split) <;> omega
 have han : 0 ≤ arityR e.op → arityN e.op = arityR e.op := fun h => by
  unfold arityR at h; unfold arityN arityR; (repeat' split) <;> simp_all
 have hvl : e.val.enc = .agg [int e.val.kind, int e.val.num, str e.val.text] := rfl
 rw [hvl] at hk hsu
 unfold Ex.nodeE Ex.formB Ex.consE at hR
 generalize usesV e.op = uv at *
 generalize usesF e.op = uf at *
 generalize arityN e.op = an at *
 generalize arityB e.op = ab at *
 generalize arityR e.op = ar at *
 generalize suitsF e.kind e.val = sf at *
 generalize suitsR e.kind e.val = sr at *
 generalize e.val.chk = ck at *
 obtain ⟨o, a, v, f, k, ⟨xk, xn, xt⟩⟩ := e
 simp only [Ex.op, Ex.kind, Ex.val, Ex.args, Ex.var, Ex.fld] at *
 rw [Ex.enc_mk] at hcl ⊢
 dsimp only at *
 refine wordsN ?_; unhygienic intros
 generalize hes : mapE Ex.enc a = es at *
 have hel : es.length = a.length := by rw [← hes, mapE_len]
 refine fn_body (fn := Tryz.f78) (n := 131) (ac := Tryzc78) (rvs := [.t 2]) rfl (by decide) Tryzp78 rfl rfl rfl ?_
 refine goA 60 ?_
 refine pcA har ?_
 refine goA 0 ?_
 refine on_cond rfl (fun c1 => ?_) (fun c1 => ?_)
 ·
  simp [ee] at c1
  refine goA 60 ?_
  refine fn_ret rfl rfl (.val ?_)
  exact congrArg (Value.int .i64) (by rw [hR]; clear ee hX; grind)
 ·
  simp [ee] at c1
  refine goA 0 ?_
  refine on_cond rfl (fun c2 => ?_) (fun c2 => ?_)
  ·
   simp [ee] at c2
   refine goA 60 ?_
   refine fn_ret rfl rfl (.val ?_)
   exact congrArg (Value.int .i64) (by rw [hR]; clear ee hX; grind)
  ·
   simp [ee] at c2
   refine goA 60 ?_
   refine pcA hu ?_
   refine goA 0 ?_
   refine nsB hX (by conv => lhs; cbv) ?_
   refine goA 0 ?_
   refine nsB hX (by conv => lhs; cbv) ?_
   refine goA 0 ?_
   refine on_cond rfl (fun c3 => ?_) (fun c3 => ?_)
   ·
    simp [ee] at c3
    refine goA 60 ?_
    refine fn_ret rfl rfl (.val ?_)
    exact congrArg (Value.int .i64) (by rw [hR]; clear ee hX; grind)
   ·
    simp [ee] at c3
    refine goA 0 ?_
    refine nsB hX (by conv => lhs; cbv) ?_
    refine goA 0 ?_
    refine on_cond rfl (fun c4 => ?_) (fun c4 => ?_)
    ·
     simp [ee] at c4
     refine goA 60 ?_
     refine fn_ret rfl rfl (.val ?_)
     exact congrArg (Value.int .i64) (by rw [hR]; clear ee hX; grind)
    ·
     simp [ee] at c4
     refine goA 0 ?_
     refine on_cond rfl (fun c5 => ?_) (fun c5 => ?_)
     ·
      simp [ee] at c5
      refine goA 60 ?_
      refine pcA hk ?_
      refine goA 0 ?_
      refine on_cond rfl (fun c6 => ?_) (fun c6 => ?_)
      ·
       simp [ee] at c6
       refine goA 60 ?_
       refine fn_ret rfl rfl (.val ?_)
       exact congrArg (Value.int .i64) (by rw [hR]; clear ee hX; grind)
      ·
       simp [ee] at c6
       refine goA 0 ?_
       refine on_guard rfl rfl (fun c7 => ?_) (fun c7 => ?_)
       ·
        simp [ee] at c7
        refine goA 60 ?_
        refine pcG hsu ?_
        refine goA 0 ?_
        refine goA 1 ?_
        refine goA 1 ?_
        refine nsB hX (by conv => lhs; cbv) ?_
        refine goA 0 ?_
        refine on_cond rfl (fun c8 => ?_) (fun c8 => ?_)
        ·
         simp [ee] at c8
         refine goA 60 ?_
         refine fn_ret rfl rfl (.val ?_)
         exact congrArg (Value.int .i64) (by rw [hR]; clear ee hX; grind)
        ·
         simp [ee] at c8
         refine goA 0 ?_
         refine nsB hX (by conv => lhs; cbv) ?_
         refine goA 0 ?_
         refine nsB hX (by conv => lhs; cbv) ?_
         refine goA 0 ?_
         refine nsB hX (by conv => lhs; cbv) ?_
         refine goA 0 ?_
         refine on_cond rfl (fun c9 => ?_) (fun c9 => ?_)
         ·
          simp [ee] at c9
          refine goA 60 ?_
          refine fn_ret rfl rfl (.val ?_)
          exact congrArg (Value.int .i64) (by rw [hR]; clear ee hX; grind)
         ·
          simp [ee] at c9
          refine goA 60 ?_
          refine fn_ret rfl rfl (.val ?_)
          exact congrArg (Value.int .i64) (by rw [hR]; clear ee hX; grind)
       ·
        simp [ee] at c7
        refine goA 60 ?_
        refine on_gskip rfl rfl ?_
        refine goA 0 ?_
        refine goA 1 ?_
        refine nsB hX (by conv => lhs; cbv) ?_
        refine goA 0 ?_
        refine nsB hX (by conv => lhs; cbv) ?_
        refine goA 0 ?_
        refine nsB hX (by conv => lhs; cbv) ?_
        refine goA 0 ?_
        refine on_cond rfl (fun c10 => ?_) (fun c10 => ?_)
        ·
         simp [ee] at c10
         refine goA 60 ?_
         refine fn_ret rfl rfl (.val ?_)
         exact congrArg (Value.int .i64) (by rw [hR]; clear ee hX; grind)
        ·
         simp [ee] at c10
         refine goA 60 ?_
         refine fn_ret rfl rfl (.val ?_)
         exact congrArg (Value.int .i64) (by rw [hR]; clear ee hX; grind)
     ·
      simp [ee] at c5
      refine goA 0 ?_
      refine on_guard rfl rfl (fun c11 => ?_) (fun c11 => ?_)
      ·
       simp [ee] at c11
       refine goA 60 ?_
       refine pcG hsu ?_
       refine goA 0 ?_
       refine goA 1 ?_
       refine goA 1 ?_
       refine nsB hX (by conv => lhs; cbv) ?_
       refine goA 0 ?_
       refine on_cond rfl (fun c12 => ?_) (fun c12 => ?_)
       ·
        simp [ee] at c12
        refine goA 60 ?_
        refine fn_ret rfl rfl (.val ?_)
        exact congrArg (Value.int .i64) (by rw [hR]; clear ee hX; grind)
       ·
        simp [ee] at c12
        refine goA 0 ?_
        refine nsB hX (by conv => lhs; cbv) ?_
        refine goA 0 ?_
        refine nsB hX (by conv => lhs; cbv) ?_
        refine goA 0 ?_
        refine nsB hX (by conv => lhs; cbv) ?_
        refine goA 0 ?_
        refine on_cond rfl (fun c13 => ?_) (fun c13 => ?_)
        ·
         simp [ee] at c13
         refine goA 60 ?_
         refine fn_ret rfl rfl (.val ?_)
         exact congrArg (Value.int .i64) (by rw [hR]; clear ee hX; grind)
        ·
         simp [ee] at c13
         refine goA 60 ?_
         refine fn_ret rfl rfl (.val ?_)
         exact congrArg (Value.int .i64) (by rw [hR]; clear ee hX; grind)
      ·
       simp [ee] at c11
       refine goA 60 ?_
       refine on_gskip rfl rfl ?_
       refine goA 0 ?_
       refine goA 1 ?_
       refine nsB hX (by conv => lhs; cbv) ?_
       refine goA 0 ?_
       refine nsB hX (by conv => lhs; cbv) ?_
       refine goA 0 ?_
       refine nsB hX (by conv => lhs; cbv) ?_
       refine goA 0 ?_
       refine on_cond rfl (fun c14 => ?_) (fun c14 => ?_)
       ·
        simp [ee] at c14
        refine goA 60 ?_
        refine fn_ret rfl rfl (.val ?_)
        exact congrArg (Value.int .i64) (by rw [hR]; clear ee hX; grind)
       ·
        simp [ee] at c14
        refine goA 60 ?_
        refine fn_ret rfl rfl (.val ?_)
        exact congrArg (Value.int .i64) (by rw [hR]; clear ee hX; grind)
theorem firstE_zero {α : Type} {F : α → Int} {l : List α} (h : firstE F l = 0) : ∀ q ∈ l, F q = 0 := by
 induction l with
 | nil => intro q hq; cases hq
 | cons x r ih =>
  intro q hq
  rw [firstE] at h
  by_cases hx : F x = 0
  · rw [if_neg (by simpa using hx)] at h
    rcases List.mem_cons.1 hq with rfl | hq
    · exact hx
    · exact ih h q hq
  · rw [if_pos hx] at h; exact absurd h hx
theorem Ex0.form : Ex0.enc = .agg [int 0, .isl 8 [], int 0, int 0, int 0, int 0, int 0, str ⟨#[]⟩] := by rw [Ex0, Ex.enc_mk, mapE_eq]; rfl
theorem P_ref08_nodes : ∀ e : Ex, e.Sm → PCall EE 65 [e.enc] (int (firstE Ex.nodeE e.nodes)) := by
 refine Ex.ind ?_
 intro o a v f k x ih hs
 have hlen := hs.len
 have hih : ∀ q ∈ a, PCall EE 65 [q.enc] (int (firstE Ex.nodeE q.nodes)) := fun q hq => ih q hq (hs.arg hq)
 have hcl := Ex.closedI a
 have hh := P_ref08_node (.mk o a v f k x) (by exact hlen)
 have hpc := Ex.closed (.mk o a v f k x)
 rw [Ex.nodes]
 obtain ⟨R, hR⟩ : ∃ R, R = firstE Ex.nodeE (Ex.mk o a v f k x :: Ex.nodesL a) := ⟨_, rfl⟩
 rw [← hR]
 rw [firstE] at hR
 obtain ⟨xk, xn, xt⟩ := x
 rw [Ex.enc_mk] at hpc hh ⊢
 dsimp only at hpc hh ⊢
 clear ih hs
 refine wordsN ?_; unhygienic intros
 generalize hes : mapE Ex.enc a = es at *
 have hel : es.length = a.length := by rw [← hes, mapE_len]
 generalize (Ex.mk o a v f k { kind := xk, num := xn, text := xt }).nodeE = fp at *
 refine fn_body (fn := Tryz.f65) (n := 27) (ac := Tryzc65) (rvs := [.t 2]) rfl (by decide) Tryzp65 rfl rfl rfl ?_
 by_cases h1 : fp = 0
 rotate_left
 · have w1 : iNe fp 0 = true := by simp only [ee]; simpa using h1
   have hR : R = fp := by rw [hR, if_pos h1]
   refine goA 60 ?_
   refine pcA hh ?_
   refine goB hX 0 (by conv => lhs; cbv; try simp only [w1]; cbv; try simp only [w1]; cbv; try simp only [w1]; cbv; try simp only [w1]; cbv) ?_
   refine goA 60 ?_
   refine fn_ret rfl rfl (.val ?_)
   exact congrArg (Value.int .i64) hR.symm
 have w1 : iNe fp 0 = false := by simp only [ee]; simpa using h1
 have hR : R = firstE Ex.nodeE (Ex.nodesL a) := by rw [hR, if_neg (by simpa using h1)]
 refine goA 60 ?_
 refine pcA hh ?_
 refine goB hX 0 (by conv => lhs; cbv; try simp only [w1]; cbv; try simp only [w1]; cbv; try simp only [w1]; cbv; try simp only [w1]; cbv) ?_
 refine goA 60 ?_
 refine on_loopP (ι := List Ex × List Ex × Int) (fun p => ([(4, int p.2.2), (1, .ptr 0 0)], [.cells [int o, .isl 8 es, int v, int f, int k, int xk, int xn, str xt]])) (fun p => a = p.1 ++ p.2.1 ∧ p.2.2 = p.1.length ∧ R = firstE Ex.nodeE (Ex.nodesL p.2.1)) (fun p => p.2.1.length) ([], a, 0) ⟨rfl, rfl, hR⟩ ?_ ?_
 · exact (ent_sub [.to 0] [some 0] ⟨⟨by simp, rfl⟩, trivial⟩ ⟨osrc_cells (b := 0) rfl rfl rfl ⟨.refl _, .cl hcl, .refl _, .refl _, .refl _, .refl _, .refl _, .refl _, trivial⟩, trivial⟩ ⟨.refl _, .refl _, trivial⟩)
 rintro ⟨d, r, i⟩ ⟨g1, gi, gR⟩
 dsimp only at g1 gi gR ⊢
 cases r with
 | nil =>
  have L1 := len_split g1
  try simp only [List.length_nil] at L1
  have hc : iLt i (lenA es) = false := lt_f e_iLt e_lenA (by omega)
  have gR : R = 0 := gR
  refine goB hX 0 (by conv => lhs; cbv; try simp only [hc]; cbv; try simp only [hc]; cbv; try simp only [hc]; cbv; try simp only [hc]; cbv) ?_
  refine goA 60 ?_
  refine loopP_exit ?_
  refine goA 60 ?_
  refine fn_ret rfl rfl (.val ?_)
  exact congrArg (Value.int .i64) gR.symm
 | cons q r =>
  have L1 := len_split g1
  try simp only [List.length_cons] at L1
  have hc : iLt i (lenA es) = true := lt_t e_iLt e_lenA (by omega)
  have hat := el_at e_atA hes g1 gi
  have hq := hih q (by rw [g1]; simp)
  have hqc := Ex.closed q
  rw [Ex.nodesL, firstE_append] at gR
  obtain ⟨qO, qA, qV, qF, qK, qXk, qXn, qXt, hx⟩ := Ex.form q
  rw [hx] at hat hqc hq
  have hi2 : iAdd .i64 i 1 = ((d ++ [q]).length : Int) := by rw [List.length_append]; exact inc_w e_iAdd gi (by omega)
  generalize firstE Ex.nodeE q.nodes = fq at *
  by_cases h2 : fq = 0
  · have w2 : iNe fq 0 = false := by simp only [ee]; simpa using h2
    rw [if_neg (by simpa using h2)] at gR
    refine goB hX 0 (by conv => lhs; cbv; try simp only [hc, hat, w2]; cbv; try simp only [hc, hat, w2]; cbv; try simp only [hc, hat, w2]; cbv; try simp only [hc, hat, w2]; cbv) ?_
    refine goB hX 1 (by conv => lhs; cbv; try simp only [hc, hat, w2]; cbv; try simp only [hc, hat, w2]; cbv; try simp only [hc, hat, w2]; cbv; try simp only [hc, hat, w2]; cbv) ?_
    refine pcA hq ?_
    refine goB hX 0 (by conv => lhs; cbv; try simp only [hc, hat, w2]; cbv; try simp only [hc, hat, w2]; cbv; try simp only [hc, hat, w2]; cbv; try simp only [hc, hat, w2]; cbv) ?_
    refine goA 60 ?_
    refine loopP_next (d ++ [q], r, iAdd .i64 i 1) ⟨by simp [g1], hi2, gR⟩ (by simp) (ent_sub [.to 0] [some 0] ⟨⟨by simp, rfl⟩, trivial⟩ ⟨osrc_cells (b := 0) rfl rfl rfl ⟨.refl _, .cl hcl, .refl _, .refl _, .refl _, .refl _, .refl _, .refl _, trivial⟩, trivial⟩ ⟨.refl _, .refl _, trivial⟩)
  · have w2 : iNe fq 0 = true := by simp only [ee]; simpa using h2
    rw [if_pos h2] at gR
    refine goB hX 0 (by conv => lhs; cbv; try simp only [hc, hat, w2]; cbv; try simp only [hc, hat, w2]; cbv; try simp only [hc, hat, w2]; cbv; try simp only [hc, hat, w2]; cbv) ?_
    refine goB hX 1 (by conv => lhs; cbv; try simp only [hc, hat, w2]; cbv; try simp only [hc, hat, w2]; cbv; try simp only [hc, hat, w2]; cbv; try simp only [hc, hat, w2]; cbv) ?_
    refine pcA hq ?_
    refine goB hX 0 (by conv => lhs; cbv; try simp only [hc, hat, w2]; cbv; try simp only [hc, hat, w2]; cbv; try simp only [hc, hat, w2]; cbv; try simp only [hc, hat, w2]; cbv) ?_
    refine goA 60 ?_
    refine loopP_ret ?_
    refine goA 60 ?_
    refine fn_ret rfl rfl (.val ?_)
    exact congrArg (Value.int .i64) gR.symm
theorem P_ref08_Check (e : Ex) (hs : e.Sm) : PCall EE 38 [e.enc] (int e.chk) := by
 have h1 := P_ref08_Count 64 (by decide) e hs
 have h2 := P_ref08_Depth e hs
 have h3 := P_ref08_nodes e hs
 have htot := Ex.tot_iff e 64
 have hcl := Ex.closed e
 obtain ⟨R, hR⟩ : ∃ R, R = e.chk := ⟨_, rfl⟩
 rw [← hR]
 unfold Ex.chk at hR
 obtain ⟨tt, htt⟩ : ∃ z : Int, z = e.tot 64 := ⟨_, rfl⟩
 obtain ⟨dp, hdp⟩ : ∃ z : Int, z = e.dep := ⟨_, rfl⟩
 rw [← htt] at h1
 rw [← hdp] at h2
 generalize firstE Ex.nodeE e.nodes = fe at *
 obtain ⟨eO, eA, eV, eF, eK, eXk, eXn, eXt, hx⟩ := Ex.form e
 rw [hx] at h1 h2 h3 hcl ⊢
 refine wordsN ?_; unhygienic intros
 refine fn_body (fn := Tryz.f38) (n := 11) (ac := Tryzc38) (rvs := [.t 2]) rfl (by decide) Tryzp38 rfl rfl rfl ?_
 by_cases g1 : tt ≤ 64
 rotate_left
 · have k1 : iLt 64 tt = true := by simp only [ee]; simp; omega
   rw [if_pos (by omega)] at hR
   refine goA 60 ?_
   refine pcA h1 ?_
   refine goB hX 0 (by conv => lhs; cbv; try simp only [k1]; cbv; try simp only [k1]; cbv; try simp only [k1]; cbv; try simp only [k1]; cbv) ?_
   refine goA 60 ?_
   refine fn_ret rfl rfl (.val ?_)
   exact congrArg (Value.int .i64) hR.symm
 have k1 : iLt 64 tt = false := by simp only [ee]; simp; omega
 rw [if_neg (by omega)] at hR
 by_cases g2 : dp ≤ 12
 rotate_left
 · have k2 : iLt 12 dp = true := by simp only [ee]; simp; omega
   rw [if_pos (by omega)] at hR
   refine goA 60 ?_
   refine pcA h1 ?_
   refine goB hX 0 (by conv => lhs; cbv; try simp only [k1, k2]; cbv; try simp only [k1, k2]; cbv; try simp only [k1, k2]; cbv; try simp only [k1, k2]; cbv) ?_
   refine goA 60 ?_
   refine pcA h2 ?_
   refine goB hX 0 (by conv => lhs; cbv; try simp only [k1, k2]; cbv; try simp only [k1, k2]; cbv; try simp only [k1, k2]; cbv; try simp only [k1, k2]; cbv) ?_
   refine goA 60 ?_
   refine fn_ret rfl rfl (.val ?_)
   exact congrArg (Value.int .i64) hR.symm
 have k2 : iLt 12 dp = false := by simp only [ee]; simp; omega
 rw [if_neg (by omega)] at hR
 refine goA 60 ?_
 refine pcA h1 ?_
 refine goB hX 0 (by conv => lhs; cbv; try simp only [k1, k2]; cbv; try simp only [k1, k2]; cbv; try simp only [k1, k2]; cbv; try simp only [k1, k2]; cbv) ?_
 refine goA 60 ?_
 refine pcA h2 ?_
 refine goB hX 0 (by conv => lhs; cbv; try simp only [k1, k2]; cbv; try simp only [k1, k2]; cbv; try simp only [k1, k2]; cbv; try simp only [k1, k2]; cbv) ?_
 refine goA 60 ?_
 refine pcA h3 ?_
 refine goA 60 ?_
 refine fn_ret rfl rfl (.val ?_)
 exact congrArg (Value.int .i64) hR.symm
theorem P_ref08_Same : ∀ x y : Ex, x.Sm → PCall EE 85 [x.enc, y.enc] (bool (eqB x y)) := by
 refine Ex.ind ?_
 intro o a v f k x ih y hs
 obtain ⟨o2, a2, v2, f2, k2, x2⟩ := y
 obtain ⟨xk, xn, xt⟩ := x
 obtain ⟨yk, yn, yt⟩ := x2
 have hlen := hs.len
 have hih : ∀ q ∈ a, ∀ q2, PCall EE 85 [q.enc, q2.enc] (bool (eqB q q2)) := fun q hq q2 => ih q hq q2 (hs.arg hq)
 have hcl := Ex.closedI a
 have hcl2 := Ex.closedI a2
 obtain ⟨R, hR⟩ : ∃ R, R = eqB (Ex.mk o a v f k ⟨xk, xn, xt⟩) (Ex.mk o2 a2 v2 f2 k2 ⟨yk, yn, yt⟩) := ⟨_, rfl⟩
 rw [← hR, Ex.enc_mk, Ex.enc_mk]
 clear ih hs
 refine wordsN ?_; unhygienic intros
 generalize hes : mapE Ex.enc a = es at *
 generalize hes2 : mapE Ex.enc a2 = es2 at *
 have hel : es.length = a.length := by rw [← hes, mapE_len]
 have hel2 : es2.length = a2.length := by rw [← hes2, mapE_len]
 refine fn_body (fn := Tryz.f85) (n := 67) (ac := Tryzc85) (rvs := [.t 4]) rfl (by decide) Tryzp85 rfl rfl rfl ?_
 refine goA 0 ?_
 refine on_cond rfl (fun c1 => ?_) (fun c1 => ?_)
 · simp [ee] at c1
   have hR : R = false := by
    rw [hR]; refine eqB_f fun h => ?_
    simp only [Ex.mk.injEq, Vl.mk.injEq] at h
    obtain ⟨rfl, rfl, rfl, rfl, rfl, rfl, rfl, rfl⟩ := h
    simp [hel, hel2] at c1
   refine goA 60 ?_
   refine fn_ret rfl rfl (.val ?_)
   exact congrArg Value.bool hR.symm
 simp [ee] at c1
 obtain ⟨⟨⟨⟨⟨h1, h2⟩, h3⟩, h4⟩, ⟨h5, h6, h7⟩⟩, h8⟩ := c1
 have h7 := bs_inj h7
 subst h1 h2 h3 h4 h5 h6 h7
 have hl8 : a.length = a2.length := by omega
 have hR : R = eqB a a2 := by
  rw [hR]
  by_cases h : a = a2
  · rw [h, eqB_t rfl, eqB_t rfl]
  · rw [eqB_f h, eqB_f (by simp [h])]
 refine goA 60 ?_
 refine on_loopP (ι := List Ex × List Ex × List Ex × List Ex × Int) (fun p => ([(5, int p.2.2.2.2), (2, .ptr 0 0), (3, .ptr 1 0)], [.cells [int o, .isl 8 es, int v, int f, int k, int xk, int xn, str xt], .cells [int o, .isl 8 es2, int v, int f, int k, int xk, int xn, str xt]])) (fun p => a = p.1 ++ p.2.1 ∧ a2 = p.2.2.1 ++ p.2.2.2.1 ∧ p.2.2.2.2 = p.1.length ∧ p.1 = p.2.2.1) (fun p => p.2.1.length) ([], a, [], a2, 0) ⟨rfl, rfl, rfl, rfl⟩ ?_ ?_
 · exact (ent_sub [.to 0, .to 1] [some 0, some 1] ⟨⟨by simp, rfl⟩, ⟨by simp, rfl⟩, trivial⟩ ⟨osrc_cells (b := 0) rfl rfl rfl ⟨.refl _, .cl hcl, .refl _, .refl _, .refl _, .refl _, .refl _, .refl _, trivial⟩, osrc_cells (b := 1) rfl rfl rfl ⟨.refl _, .cl hcl2, .refl _, .refl _, .refl _, .refl _, .refl _, .refl _, trivial⟩, trivial⟩ ⟨.refl _, .refl _, .refl _, trivial⟩)
 rintro ⟨d, r, d2, r2, i⟩ ⟨g1, g2, gi, gd⟩
 dsimp only at g1 g2 gi gd ⊢
 subst gd
 cases r with
 | nil =>
  have L1 := len_split g1
  try simp only [List.length_nil] at L1
  have hc : iLt i (lenA es) = false := lt_f e_iLt e_lenA (by omega)
  have L2 := len_split g2
  try simp only [List.length_cons, List.length_nil] at L2
  have hr2 : r2 = [] := List.length_eq_zero_iff.1 (by omega)
  have hR : R = true := by rw [hR]; exact eqB_t (by rw [g1, g2, hr2])
  refine goB hX 0 (by conv => lhs; cbv; try simp only [hc]; cbv; try simp only [hc]; cbv; try simp only [hc]; cbv; try simp only [hc]; cbv) ?_
  refine goA 60 ?_
  refine loopP_exit ?_
  refine goA 60 ?_
  refine fn_ret rfl rfl (.val ?_)
  exact congrArg Value.bool hR.symm
 | cons q r =>
  have L1 := len_split g1
  try simp only [List.length_cons] at L1
  have hc : iLt i (lenA es) = true := lt_t e_iLt e_lenA (by omega)
  have hat := el_at e_atA hes g1 gi
  have L2 := len_split g2
  try simp only [List.length_cons, List.length_nil] at L2
  cases r2 with
  | nil => exfalso; simp at L2; omega
  | cons q2 r2 =>
   have hat2 := el_at e_atA hes2 g2 gi
   have hq := hih q (by rw [g1]; simp) q2
   have hqc := Ex.closed q
   have hqc2 := Ex.closed q2
   obtain ⟨qO, qA, qV, qF, qK, qXk, qXn, qXt, hx⟩ := Ex.form q
   obtain ⟨q2O, q2A, q2V, q2F, q2K, q2Xk, q2Xn, q2Xt, hx2⟩ := Ex.form q2
   rw [hx, hx2] at hq
   rw [hx] at hat hqc
   rw [hx2] at hat2 hqc2
   have hi2 : iAdd .i64 i 1 = ((d ++ [q]).length : Int) := by rw [List.length_append]; exact inc_w e_iAdd gi (by omega)
   by_cases hqq : q = q2
   · rw [eqB_t hqq] at hq
     have hn : bNot true = false := by simp [ee]
     refine goB hX 0 (by conv => lhs; cbv; try simp only [hc, hat, hat2, hn]; cbv; try simp only [hc, hat, hat2, hn]; cbv; try simp only [hc, hat, hat2, hn]; cbv; try simp only [hc, hat, hat2, hn]; cbv) ?_
     refine goB hX 1 (by conv => lhs; cbv; try simp only [hc, hat, hat2, hn]; cbv; try simp only [hc, hat, hat2, hn]; cbv; try simp only [hc, hat, hat2, hn]; cbv; try simp only [hc, hat, hat2, hn]; cbv) ?_
     refine tr_drawB rfl (by conv => lhs; cbv) rfl ?_
     refine tgB hX (by conv => lhs; cbv; try simp only [hc, hat, hat2, hn]; cbv; try simp only [hc, hat, hat2, hn]; cbv; try simp only [hc, hat, hat2, hn]; cbv; try simp only [hc, hat, hat2, hn]; cbv) ?_
     refine pcT hq ?_
     refine tgA ?_
     refine tr_nil ⟨rfl, ?_, ?_⟩
     · simp only [LooksL, lookAll, List.cons_append, List.nil_append, List.append_nil]; and_intros <;> first | trivial | (intro hp; first | rfl | exact absurd (show false = true from hp) Bool.false_ne_true)
     refine goB hX 0 (by conv => lhs; cbv; try simp only [hc, hat, hat2, hn]; cbv; try simp only [hc, hat, hat2, hn]; cbv; try simp only [hc, hat, hat2, hn]; cbv; try simp only [hc, hat, hat2, hn]; cbv) ?_
     refine goA 60 ?_
     refine loopP_next (d ++ [q], r, d ++ [q2], r2, iAdd .i64 i 1) ⟨by simp [g1], by simp [g2], hi2, by simp [hqq]⟩ (by simp) (ent_sub [.to 0, .to 1] [some 0, some 1] ⟨⟨by simp, rfl⟩, ⟨by simp, rfl⟩, trivial⟩ ⟨osrc_cells (b := 0) rfl rfl rfl ⟨.refl _, .cl hcl, .refl _, .refl _, .refl _, .refl _, .refl _, .refl _, trivial⟩, osrc_cells (b := 1) rfl rfl rfl ⟨.refl _, .cl hcl2, .refl _, .refl _, .refl _, .refl _, .refl _, .refl _, trivial⟩, trivial⟩ ⟨.refl _, .refl _, .refl _, trivial⟩)
   · rw [eqB_f hqq] at hq
     have hn : bNot false = true := by simp [ee]
     have hR : R = false := by rw [hR]; exact eqB_f (by rw [g1, g2]; simp [hqq])
     refine goB hX 0 (by conv => lhs; cbv; try simp only [hc, hat, hat2, hn]; cbv; try simp only [hc, hat, hat2, hn]; cbv; try simp only [hc, hat, hat2, hn]; cbv; try simp only [hc, hat, hat2, hn]; cbv) ?_
     refine goB hX 1 (by conv => lhs; cbv; try simp only [hc, hat, hat2, hn]; cbv; try simp only [hc, hat, hat2, hn]; cbv; try simp only [hc, hat, hat2, hn]; cbv; try simp only [hc, hat, hat2, hn]; cbv) ?_
     refine tr_drawB rfl (by conv => lhs; cbv) rfl ?_
     refine tgB hX (by conv => lhs; cbv; try simp only [hc, hat, hat2, hn]; cbv; try simp only [hc, hat, hat2, hn]; cbv; try simp only [hc, hat, hat2, hn]; cbv; try simp only [hc, hat, hat2, hn]; cbv) ?_
     refine pcT hq ?_
     refine tgA ?_
     refine tr_nil ⟨rfl, ?_, ?_⟩
     · simp only [LooksL, lookAll, List.cons_append, List.nil_append, List.append_nil]; and_intros <;> first | trivial | (intro hp; first | rfl | exact absurd (show false = true from hp) Bool.false_ne_true)
     refine goB hX 0 (by conv => lhs; cbv; try simp only [hc, hat, hat2, hn]; cbv; try simp only [hc, hat, hat2, hn]; cbv; try simp only [hc, hat, hat2, hn]; cbv; try simp only [hc, hat, hat2, hn]; cbv) ?_
     refine goA 60 ?_
     refine loopP_ret ?_
     refine goA 60 ?_
     refine fn_ret rfl rfl (.val ?_)
     exact congrArg Value.bool hR.symm
theorem P_Negates (p : Pat) : PCall EE 53 [p.enc] (bool (decide (p.op = 5 ∨ p.op = 9))) := by
 obtain ⟨R, hR⟩ : ∃ R, R = decide (p.op = 5 ∨ p.op = 9) := ⟨_, rfl⟩
 rw [← hR]
 have hcl := Pat.closed p
 obtain ⟨pO, pA, pT, pV, pS, pN, pCo, pCa, pCv, pCf, pCk, pXk, pXn, pXt, hx, hxc, hpO, hpA, hpT, hpV, hpS, hpN⟩ := Pat.form2 p
 rw [hx] at hcl ⊢
 rw [← hpO] at hR
 refine wordsN ?_; unhygienic intros
 refine fn_body (fn := Tryz.f53) (n := 11) (ac := Tryzc53) (rvs := [.t 2]) rfl (by decide) Tryzp53 rfl rfl rfl ?_
 refine goA 60 ?_
 refine fn_ret rfl rfl (.val ?_)
 exact congrArg Value.bool (by rw [hR, Bool.eq_iff_iff]; simp only [ee]; simp)
theorem P_Times (p : Pat) : PCall EE 54 [p.enc] (bool (spanF p.op)) := by
 obtain ⟨R, hR⟩ : ∃ R, R = spanF p.op := ⟨_, rfl⟩
 rw [← hR]
 unfold spanF at hR
 have hcl := Pat.closed p
 obtain ⟨pO, pA, pT, pV, pS, pN, pCo, pCa, pCv, pCf, pCk, pXk, pXn, pXt, hx, hxc, hpO, hpA, hpT, hpV, hpS, hpN⟩ := Pat.form2 p
 rw [hx] at hcl ⊢
 rw [← hpO] at hR
 refine wordsN ?_; unhygienic intros
 refine fn_body (fn := Tryz.f54) (n := 11) (ac := Tryzc54) (rvs := [.t 2]) rfl (by decide) Tryzp54 rfl rfl rfl ?_
 refine goA 60 ?_
 refine fn_ret rfl rfl (.val ?_)
 exact congrArg Value.bool (by rw [hR, Bool.eq_iff_iff]; simp only [ee]; simp)
theorem P_variable (p : Pat) : PCall EE 52 [p.enc] (bool (typedF p.op)) := by
 have h1 := P_Negates p
 obtain ⟨R, hR⟩ : ∃ R, R = typedF p.op := ⟨_, rfl⟩
 rw [← hR]
 unfold typedF at hR
 have hcl := Pat.closed p
 obtain ⟨pO, pA, pT, pV, pS, pN, pCo, pCa, pCv, pCf, pCk, pXk, pXn, pXt, hx, hxc, hpO, hpA, hpT, hpV, hpS, hpN⟩ := Pat.form2 p
 rw [hx] at h1 hcl ⊢
 rw [← hpO] at hR h1
 refine wordsN ?_; unhygienic intros
 refine fn_body (fn := Tryz.f52) (n := 10) (ac := Tryzc52) (rvs := [.t 2]) rfl (by decide) Tryzp52 rfl rfl rfl ?_
 refine goA 0 ?_
 refine on_guard rfl rfl (fun c1 => ?_) (fun c1 => ?_)
 ·
  simp [ee] at c1
  refine goA 60 ?_
  refine fn_ret rfl rfl (.val ?_)
  exact congrArg Value.bool (by rw [hR]; clear ee hX; grind)
 ·
  simp [ee] at c1
  refine goA 60 ?_
  refine pcG h1 ?_
  refine goA 60 ?_
  refine fn_ret rfl rfl (.val ?_)
  exact congrArg Value.bool (by rw [hR]; clear ee hX; grind)
theorem P_condition (p : Pat) : PCall EE 83 [p.enc] (bool (condF p.op)) := by
 have h1 := P_variable p
 obtain ⟨R, hR⟩ : ∃ R, R = condF p.op := ⟨_, rfl⟩
 rw [← hR]
 have h2 : condF p.op = (typedF p.op || decide (p.op = 7)) := by unfold condF typedF; rw [Bool.eq_iff_iff]; simp; omega
 rw [h2] at hR
 generalize typedF p.op = ty at *
 have hcl := Pat.closed p
 obtain ⟨pO, pA, pT, pV, pS, pN, pCo, pCa, pCv, pCf, pCk, pXk, pXn, pXt, hx, hxc, hpO, hpA, hpT, hpV, hpS, hpN⟩ := Pat.form2 p
 rw [hx] at h1 hcl ⊢
 rw [← hpO] at hR
 refine wordsN ?_; unhygienic intros
 refine fn_body (fn := Tryz.f83) (n := 10) (ac := Tryzc83) (rvs := [.t 2]) rfl (by decide) Tryzp83 rfl rfl rfl ?_
 refine goA 60 ?_
 refine pcA h1 ?_
 refine goA 60 ?_
 refine fn_ret rfl rfl (.val ?_)
 exact congrArg Value.bool (by rw [hR]; first | (rw [Bool.eq_iff_iff]; simp only [ee]; simp; done) | (simp only [ee] at *; simp at *; simp [*]))
theorem P_bad (u : Bool) (n m : Int) : PCall EE 84 [bool u, int n, int m] (bool (u && decide (n < 0 ∨ m < n))) := by
 obtain ⟨R, hR⟩ : ∃ R, R = (u && decide (n < 0 ∨ m < n)) := ⟨_, rfl⟩
 rw [← hR]
 refine wordsN ?_; unhygienic intros
 refine fn_body (fn := Tryz.f84) (n := 17) (ac := Tryzc84) (rvs := [.t 6]) rfl (by decide) Tryzp84 rfl rfl rfl ?_
 refine goA 0 ?_
 refine nsB hX (by conv => lhs; cbv) ?_
 refine goA 60 ?_
 refine fn_ret rfl rfl (.val ?_)
 exact congrArg Value.bool (by rw [hR]; first | (rw [Bool.eq_iff_iff]; simp only [ee]; simp; done) | (simp only [ee] at *; simp at *; simp [*]))
theorem P_ref09_arity (p : Pat) (_hlen : p.args.length < 1048576) : PCall EE 82 [p.enc] (bool (decide (if p.op = 0 then p.args.length = 0 else if p.op = 1 ∨ p.op = 2 ∨ p.op = 3 then 2 ≤ p.args.length else if p.op = 8 then p.args.length = 2 else p.args.length = 1))) := by
 obtain ⟨R, hR⟩ : ∃ R, R = (decide (if p.op = 0 then p.args.length = 0 else if p.op = 1 ∨ p.op = 2 ∨ p.op = 3 then 2 ≤ p.args.length else if p.op = 8 then p.args.length = 2 else p.args.length = 1)) := ⟨_, rfl⟩
 rw [← hR]
 have hcl := Pat.closed p
 obtain ⟨pO, pA, pT, pV, pS, pN, pCo, pCa, pCv, pCf, pCk, pXk, pXn, pXt, hx, hxc, hpO, hpA, hpT, hpV, hpS, hpN⟩ := Pat.form2 p
 have hel : pA.length = p.args.length := by rw [hpA, mapE_len]
 rw [hx] at hcl ⊢
 rw [← hpO] at hR
 clear hpA
 generalize p.args.length = n at *
 refine wordsN ?_; unhygienic intros
 refine fn_body (fn := Tryz.f82) (n := 29) (ac := Tryzc82) (rvs := [.t 2]) rfl (by decide) Tryzp82 rfl rfl rfl ?_
 refine goA 0 ?_
 refine on_cond rfl (fun c1 => ?_) (fun c1 => ?_)
 ·
  simp [ee] at c1
  refine goA 60 ?_
  refine fn_ret rfl rfl (.val ?_)
  exact congrArg Value.bool (by rw [hR, Bool.eq_iff_iff]; simp only [ee]; clear ee hX; simp; grind)
 ·
  simp [ee] at c1
  refine goA 0 ?_
  refine on_cond rfl (fun c2 => ?_) (fun c2 => ?_)
  ·
   simp [ee] at c2
   refine goA 0 ?_
   refine on_cond rfl (fun c3 => ?_) (fun c3 => ?_)
   ·
    simp [ee] at c3
    refine goA 60 ?_
    refine fn_ret rfl rfl (.val ?_)
    exact congrArg Value.bool (by rw [hR, Bool.eq_iff_iff]; simp only [ee]; clear ee hX; simp; grind)
   ·
    simp [ee] at c3
    refine goA 0 ?_
    refine on_cond rfl (fun c4 => ?_) (fun c4 => ?_)
    ·
     simp [ee] at c4
     refine goA 60 ?_
     refine fn_ret rfl rfl (.val ?_)
     exact congrArg Value.bool (by rw [hR, Bool.eq_iff_iff]; simp only [ee]; clear ee hX; simp; grind)
    ·
     simp [ee] at c4
     refine goA 60 ?_
     refine fn_ret rfl rfl (.val ?_)
     exact congrArg Value.bool (by rw [hR, Bool.eq_iff_iff]; simp only [ee]; clear ee hX; simp; grind)
  ·
   simp [ee] at c2
   refine goA 0 ?_
   refine on_cond rfl (fun c5 => ?_) (fun c5 => ?_)
   ·
    simp [ee] at c5
    refine goA 0 ?_
    refine on_cond rfl (fun c6 => ?_) (fun c6 => ?_)
    ·
     simp [ee] at c6
     refine goA 60 ?_
     refine fn_ret rfl rfl (.val ?_)
     exact congrArg Value.bool (by rw [hR, Bool.eq_iff_iff]; simp only [ee]; clear ee hX; simp; grind)
    ·
     simp [ee] at c6
     refine goA 0 ?_
     refine on_cond rfl (fun c7 => ?_) (fun c7 => ?_)
     ·
      simp [ee] at c7
      refine goA 60 ?_
      refine fn_ret rfl rfl (.val ?_)
      exact congrArg Value.bool (by rw [hR, Bool.eq_iff_iff]; simp only [ee]; clear ee hX; simp; grind)
     ·
      simp [ee] at c7
      refine goA 60 ?_
      refine fn_ret rfl rfl (.val ?_)
      exact congrArg Value.bool (by rw [hR, Bool.eq_iff_iff]; simp only [ee]; clear ee hX; simp; grind)
   ·
    simp [ee] at c5
    refine goA 0 ?_
    refine on_cond rfl (fun c8 => ?_) (fun c8 => ?_)
    ·
     simp [ee] at c8
     refine goA 60 ?_
     refine fn_ret rfl rfl (.val ?_)
     exact congrArg Value.bool (by rw [hR, Bool.eq_iff_iff]; simp only [ee]; clear ee hX; simp; grind)
    ·
     simp [ee] at c8
     refine goA 0 ?_
     refine on_cond rfl (fun c9 => ?_) (fun c9 => ?_)
     ·
      simp [ee] at c9
      refine goA 60 ?_
      refine fn_ret rfl rfl (.val ?_)
      exact congrArg Value.bool (by rw [hR, Bool.eq_iff_iff]; simp only [ee]; clear ee hX; simp; grind)
     ·
      simp [ee] at c9
      refine goA 60 ?_
      refine fn_ret rfl rfl (.val ?_)
      exact congrArg Value.bool (by rw [hR, Bool.eq_iff_iff]; simp only [ee]; clear ee hX; simp; grind)
theorem scopeF_or (o : Int) : scopeF o = (decide (o = 5 ∨ o = 9) || spanF o) := by unfold scopeF spanF; rw [Bool.eq_iff_iff]; simp; omega
theorem Pat.enc_c (o a t v s n) {c : Ex} {cs : List AV} (h : c.enc = .agg cs) : (Pat.mk o a t v s n c).enc = .agg ([int o, .isl 14 (mapE Pat.enc a), int t, int v, int s, int n] ++ cs) := by
 obtain ⟨co, ca, cv, cf, ck, cx⟩ := c
 rw [Ex.enc_mk] at h
 injection h with h
 rw [Pat.enc_mk, ← h]; rfl
theorem P_ref09_Nodes : ∀ p : Pat, p.Sm → PCall EE 30 [p.enc] (.isl 14 (mapE Pat.enc p.nodes)) := by
 refine Pat.ind ?_
 intro o a t v s n c ih hs
 obtain ⟨pp, hpp⟩ : ∃ pp, pp = Pat.mk o a t v s n c := ⟨_, rfl⟩
 have hpe : pp.enc = (Pat.mk o a t v s n c).enc := by rw [hpp]
 obtain ⟨co, ca, cv, cf, ck, xk, xn, xt⟩ := c
 have hlen := hs.len
 have hih : ∀ q ∈ a, PCall EE 30 [q.enc] (.isl 14 (mapE Pat.enc q.nodes)) := fun q hq => ih q hq (hs.arg hq)
 have hcl := Pat.closedI a
 have hce := Ex.closedI ca
 have hcnt : Pat.cntL a ≤ 1048575 := by have hs := hs.1; simp only [Pat.cnt] at hs; omega
 simp only [Pat.nodes]
 rw [← hpp]
 rw [Pat.enc_mk] at hpe
 clear hpp
 have hpc := Pat.closed pp
 rw [hpe] at hpc ⊢
 refine wordsN ?_; unhygienic intros
 generalize hes : mapE Pat.enc a = es at *
 generalize mapE Ex.enc ca = ec at *
 have hel : es.length = a.length := by rw [← hes, mapE_len]
 have hone : ∀ x, AV.closedL [x] = x.closed := by simp [AV.closedL]
 have hw0 : [AV.agg [int o, .isl 14 es, int t, int v, int s, int n, int co, .isl 8 ec, int cv, int cf, int ck, int xk, int xn, str xt]] = mapE Pat.enc (pp :: Pat.nodesL []) := by rw [mapE_eq, Pat.nodesL, List.map_cons, hpe]; rfl
 have hcw0 : AV.closedL [AV.agg [int o, .isl 14 es, int t, int v, int s, int n, int co, .isl 8 ec, int cv, int cf, int ck, int xk, int xn, str xt]] = true := by rw [hone]; exact hpc
 refine fn_body (fn := Tryz.f30) (n := 23) (ac := Tryzc30) (rvs := [.t 2]) rfl (by decide) Tryzp30 rfl rfl rfl ?_
 refine goA 60 ?_
 refine on_loopP (ι := List Pat × List Pat × Int × Nat × List AV) (fun p => ([(3, .sl 1 14 0 p.2.2.2.1), (4, int p.2.2.1), (1, .ptr 0 0)], [.cells [int o, .isl 14 es, int t, int v, int s, int n, int co, .isl 8 ec, int cv, int cf, int ck, int xk, int xn, str xt], .arr 14 p.2.2.2.2])) (fun p => a = p.1 ++ p.2.1 ∧ p.2.2.1 = p.1.length ∧ p.2.2.2.1 = p.2.2.2.2.length ∧ p.2.2.2.2 = mapE Pat.enc (pp :: Pat.nodesL p.1)) (fun p => p.2.1.length) ([], a, 0, 1, [AV.agg [int o, .isl 14 es, int t, int v, int s, int n, int co, .isl 8 ec, int cv, int cf, int ck, int xk, int xn, str xt]]) ⟨rfl, rfl, rfl, hw0⟩ ?_ ?_
 · exact (ent_sub [.to 0, .to 1] [some 0, some 1] ⟨⟨by simp, rfl⟩, ⟨by simp, rfl⟩, trivial⟩ ⟨osrc_cells (b := 0) rfl rfl rfl ⟨.refl _, .cl hcl, .refl _, .refl _, .refl _, .refl _, .refl _, .cl hce, .refl _, .refl _, .refl _, .refl _, .refl _, .refl _, trivial⟩, osrc_arr (b := 1) rfl rfl rfl rfl hcw0, trivial⟩ ⟨.refl _, .refl _, .refl _, trivial⟩)
 rintro ⟨d, r, i, m, w⟩ ⟨g1, gi, gm, gw⟩
 dsimp only at g1 gi gm gw ⊢
 have hcw : AV.closedL w = true := by rw [gw]; exact Pat.closedL _
 have hm : m = Pat.cntL d + 1 := by rw [gm, gw, mapE_len, List.length_cons, Pat.nodesL_len']
 cases r with
 | nil =>
  have L1 := len_split g1
  try simp only [List.length_nil] at L1
  have hc : iLt i (lenA es) = false := lt_f e_iLt e_lenA (by omega)
  rw [List.append_nil] at g1
  rw [g1, ← gw]
  refine goB hX 0 (by conv => lhs; cbv; try simp only [hc]; cbv; try simp only [hc]; cbv; try simp only [hc]; cbv; try simp only [hc]; cbv) ?_
  refine goA 60 ?_
  refine loopP_exit ?_
  refine goA 60 ?_
  refine fn_ret rfl rfl ?_
  exact ⟨[.gone, .isl 14 (w)], ⟨trivial, ⟨_, rfl, (subL_closed _ hcw).symm⟩, trivial⟩, .of (sub_whole rfl (by omega))⟩
 | cons q r =>
  have L1 := len_split g1
  try simp only [List.length_cons] at L1
  have hc : iLt i (lenA es) = true := lt_t e_iLt e_lenA (by omega)
  have hat := el_at e_atA hes g1 gi
  have hq := hih q (by rw [g1]; simp)
  have hqc := Pat.closed q
  rw [g1, Pat.cntL_append, Pat.cntL] at hcnt
  have hfit := fitPat q.nodes
  have hcq := Pat.closedL q.nodes
  have hql : (mapE Pat.enc q.nodes).length = q.cnt := by rw [mapE_len, Pat.nodes_len]
  obtain ⟨qO, qA, qT, qV, qS, qN, qCo, qCa, qCv, qCf, qCk, qXk, qXn, qXt, hx⟩ := Pat.form q
  rw [hx] at hq hat hqc
  have hw2 : catA (dropA w 0) (mapE Pat.enc q.nodes) = mapE Pat.enc (pp :: Pat.nodesL (d ++ [q])) := by
   simp only [ee]; rw [gw, List.drop_zero, mapE_eq, mapE_eq, mapE_eq, ← List.map_append, Pat.nodesL_append]; simp [Pat.nodesL]
  generalize mapE Pat.enc q.nodes = eq at *
  have hi2 : iAdd .i64 i 1 = ((d ++ [q]).length : Int) := by rw [List.length_append]; exact inc_w e_iAdd gi (by omega)
  have hm2 : addN m (lenN eq) = (catA (dropA w 0) eq).length := by simp only [ee]; simp [gm]
  have hcw2 : AV.closedL (catA (dropA w 0) eq) = true := by rw [hw2]; exact Pat.closedL _
  refine goB hX 0 (by conv => lhs; cbv; try simp only [hc, hat]; cbv; try simp only [hc, hat]; cbv; try simp only [hc, hat]; cbv; try simp only [hc, hat]; cbv) ?_
  refine goB hX 1 (by conv => lhs; cbv; try simp only [hc, hat]; cbv; try simp only [hc, hat]; cbv; try simp only [hc, hat]; cbv; try simp only [hc, hat]; cbv) ?_
  refine pcA hq ?_
  refine goA 60 ?_
  refine loopP_next (d ++ [q], r, iAdd .i64 i 1, addN m (lenN eq), catA (dropA w 0) eq) ⟨by simp [g1], hi2, hm2, hw2⟩ (by simp) (ent_sub [.to 0, .gone, .to 1] [some 0, some 2] ⟨⟨by simp, rfl⟩, trivial, ⟨by simp, rfl⟩, trivial⟩ ⟨osrc_cells (b := 0) rfl rfl rfl ⟨.refl _, .cl hcl, .refl _, .refl _, .refl _, .refl _, .refl _, .cl hce, .refl _, .refl _, .refl _, .refl _, .refl _, .refl _, trivial⟩, osrc_arr (b := 2) rfl rfl rfl rfl hcw2, trivial⟩ ⟨.refl _, .refl _, .refl _, trivial⟩)
theorem wholeE_ok {p : Pat} (h : p.wholeE = 0) : p.chkR = 0 ∧ (∀ q ∈ p.nodes, q.nodeE = 0) ∧ ∀ q ∈ p.nodes, q.op < 8 := by
 unfold Pat.wholeE at h
 by_cases h1 : p.chkR = 0
 · rw [if_neg (by simpa using h1)] at h
   have fe : ∀ {F : Pat → Int} {l : List Pat}, firstE F l = 0 → ∀ q ∈ l, F q = 0 := by
    intro F l
    induction l with
    | nil => intro _ q hq; cases hq
    | cons x r ih =>
     intro hf q hq
     rw [firstE] at hf
     by_cases hx : F x = 0
     · rw [if_neg (by simpa using hx)] at hf
       rcases List.mem_cons.1 hq with rfl | hq
       · exact hx
       · exact ih hf q hq
     · rw [if_pos hx] at hf; exact absurd hf hx
   refine ⟨h1, ?_, fun q hq => ?_⟩
   · unfold Pat.chkR at h1
     split at h1
     · cases h1
     · split at h1
       · cases h1
       · exact fe h1
   · have := fe h q hq
     by_cases h8 : 8 ≤ q.op
     · simp [h8] at this
     · omega
 · rw [if_pos h1] at h; exact absurd h h1
theorem nodeE_op {q : Pat} (h : q.nodeE = 0) : 0 ≤ q.op ∧ q.op < 11 := by
 unfold Pat.nodeE at h
 by_cases h1 : q.op < 0 ∨ 11 ≤ q.op
 · rw [if_pos h1] at h; cases h
 · omega
noncomputable def Pat.chk (p : Pat) : Int := if p.wholeE ≠ 0 then p.wholeE else if (cfold p.nodes).2.2 = true then 0 else 14
theorem P_pattern_Check (p : Pat) (hs : p.Sm) : PCall EE 24 [p.enc] (int p.chk) := by
 have h1 := P_whole p hs
 have h2 := fun h : p.wholeE = 0 => P_count p hs fun q hq => nodeE_op ((wholeE_ok h).2.1 q hq)
 have hcl := Pat.closed p
 obtain ⟨R, hR⟩ : ∃ R, R = p.chk := ⟨_, rfl⟩
 rw [← hR]
 unfold Pat.chk at hR
 generalize p.wholeE = rn at *
 generalize (cfold p.nodes).1 = c1 at *
 generalize (cfold p.nodes).2.1 = c2 at *
 generalize (cfold p.nodes).2.2 = c3 at *
 obtain ⟨pO, pA, pT, pV, pS, pN, pCo, pCa, pCv, pCf, pCk, pXk, pXn, pXt, hx⟩ := Pat.form p
 rw [hx] at h1 h2 hcl ⊢
 refine wordsN ?_; unhygienic intros
 refine fn_body (fn := Tryz.f24) (n := 20) (ac := Tryzc24) (rvs := [.t 2]) rfl (by decide) Tryzp24 rfl rfl rfl ?_
 by_cases g1 : rn = 0
 rotate_left
 · have k1 : iNe rn 0 = true := by simp only [ee]; simpa using g1
   rw [if_pos g1] at hR
   refine goA 60 ?_
   refine pcA h1 ?_
   refine goB hX 0 (by conv => lhs; cbv; try simp only [k1]; cbv; try simp only [k1]; cbv; try simp only [k1]; cbv; try simp only [k1]; cbv) ?_
   refine goA 60 ?_
   refine fn_ret rfl rfl (.val ?_)
   exact congrArg (Value.int .i64) hR.symm
 have k1 : iNe rn 0 = false := by simp only [ee]; simpa using g1
 have h2 := h2 g1
 rw [if_neg (by simpa using g1)] at hR
 cases c3 with
 | true =>
  have k2 : bNot true = false := by simp only [ee]; rfl
  refine goA 60 ?_
  refine pcA h1 ?_
  refine goB hX 0 (by conv => lhs; cbv; try simp only [k1, k2]; cbv; try simp only [k1, k2]; cbv; try simp only [k1, k2]; cbv; try simp only [k1, k2]; cbv) ?_
  refine goA 60 ?_
  refine pcA h2 ?_
  refine goB hX 0 (by conv => lhs; cbv; try simp only [k1, k2]; cbv; try simp only [k1, k2]; cbv; try simp only [k1, k2]; cbv; try simp only [k1, k2]; cbv) ?_
  refine goA 60 ?_
  refine fn_ret rfl rfl (.val ?_)
  exact congrArg (Value.int .i64) hR.symm
 | false =>
  have k2 : bNot false = true := by simp only [ee]; rfl
  refine goA 60 ?_
  refine pcA h1 ?_
  refine goB hX 0 (by conv => lhs; cbv; try simp only [k1, k2]; cbv; try simp only [k1, k2]; cbv; try simp only [k1, k2]; cbv; try simp only [k1, k2]; cbv) ?_
  refine goA 60 ?_
  refine pcA h2 ?_
  refine goB hX 0 (by conv => lhs; cbv; try simp only [k1, k2]; cbv; try simp only [k1, k2]; cbv; try simp only [k1, k2]; cbv; try simp only [k1, k2]; cbv) ?_
  refine goA 60 ?_
  refine fn_ret rfl rfl (.val ?_)
  exact congrArg (Value.int .i64) hR.symm
def Pat0 : Pat := .mk 0 [] 0 0 0 0 Ex0
theorem Pat0.enc_eq : Pat0.enc = .agg [int 0, .isl 14 [], int 0, int 0, int 0, int 0, int 0, .isl 8 [], int 0, int 0, int 0, int 0, int 0, str ⟨#[]⟩] := by
 rw [Pat0, Ex0, Pat.enc_mk, mapE_eq, mapE_eq]; rfl
def Pat.nodeAt (p : Pat) (i : Int) : Pat := if 0 ≤ i ∧ i < p.nodes.length then p.nodes.getD i.toNat Pat0 else Pat0
def Pat.nodeEr (p : Pat) (i : Int) : Int := if 0 ≤ i ∧ i < p.nodes.length then 0 else 6
theorem P_ref09_Node (p : Pat) (i : Int) (hs : p.Sm) : PCall EE 43 [p.enc, int i] (.tup [(p.nodeAt i).enc, int (p.nodeEr i)]) := by
 have h1 := P_ref09_Nodes p hs
 have hcl := Pat.closed p
 have hcnt := Pat.nodes_len p
 have hs1 := hs.1
 obtain ⟨R, hR⟩ : ∃ R, R = p.nodeAt i := ⟨_, rfl⟩
 obtain ⟨R2, hR2⟩ : ∃ R, R = p.nodeEr i := ⟨_, rfl⟩
 rw [← hR, ← hR2]
 unfold Pat.nodeAt at hR
 unfold Pat.nodeEr at hR2
 have hcn := Pat.closedI p.nodes
 obtain ⟨pO, pA, pT, pV, pS, pN, pCo, pCa, pCv, pCf, pCk, pXk, pXn, pXt, hx⟩ := Pat.form p
 rw [hx] at h1 hcl ⊢
 refine wordsN ?_; unhygienic intros
 generalize p.nodes = nl at *
 generalize hes : mapE Pat.enc nl = es at *
 have hel : es.length = nl.length := by rw [← hes, mapE_len]
 refine fn_body (fn := Tryz.f43) (n := 22) (ac := Tryzc43) (rvs := [.cell 4 14 true, .t 5]) rfl (by decide) Tryzp43 rfl rfl rfl ?_
 by_cases hi : 0 ≤ i ∧ i < nl.length
 · rw [if_pos hi] at hR hR2
   have hat : atA es i = (nl.getD i.toNat Pat0).enc := by
    simp only [ee]
    rw [← hes, mapE_eq, List.getD_eq_getElem?_getD, List.getElem?_map, List.getD_eq_getElem?_getD, List.getElem?_eq_getElem (by omega)]; rfl
   rw [← hR] at hat
   have hk : bOr (iLt i 0) (iLe (lenA es) i) = false := by simp only [ee]; simp; omega
   have hRc := Pat.closed R
   obtain ⟨RO, RA, RT, RV, RS, RN, RCo, RCa, RCv, RCf, RCk, RXk, RXn, RXt, hx2⟩ := Pat.form R
   rw [hx2] at hat hRc ⊢
   rw [hR2]
   refine goA 60 ?_
   refine pcA h1 ?_
   refine goB hX 0 (by conv => lhs; cbv; try simp only [hk, hat]; cbv; try simp only [hk, hat]; cbv; try simp only [hk, hat]; cbv; try simp only [hk, hat]; cbv) ?_
   refine goB hX 1 (by conv => lhs; cbv; try simp only [hk, hat]; cbv; try simp only [hk, hat]; cbv; try simp only [hk, hat]; cbv; try simp only [hk, hat]; cbv) ?_
   refine fn_ret rfl rfl ?_
   exact ⟨[.gone, .gone], ⟨trivial, trivial, trivial⟩, .tup' ⟨.cl hRc, .refl _, trivial⟩⟩
 · rw [if_neg hi] at hR hR2
   have hk : bOr (iLt i 0) (iLe (lenA es) i) = true := by simp only [ee]; simp; omega
   rw [hR, hR2, Pat0.enc_eq]
   refine goA 60 ?_
   refine pcA h1 ?_
   refine goB hX 0 (by conv => lhs; cbv; try simp only [hk]; cbv; try simp only [hk]; cbv; try simp only [hk]; cbv; try simp only [hk]; cbv) ?_
   refine goA 60 ?_
   refine fn_ret rfl rfl ?_
   exact ⟨[.gone, .gone], ⟨trivial, trivial, trivial⟩, .tup' ⟨.agg' ⟨.refl _, .nilI _, .refl _, .refl _, .refl _, .refl _, .refl _, .nilI _, .refl _, .refl _, .refl _, .refl _, .refl _, .refl _, trivial⟩, .refl _, trivial⟩⟩
theorem comp_split (zs : List Int) : ∀ m, m ≤ zs.length → zs.Pairwise (· ≤ ·) →
 (Lib.compactUpTo zs.toArray m).Pairwise (· < ·) ∧ (∀ n, n ∈ Lib.compactUpTo zs.toArray m ↔ n ∈ zs.take m) := by
 intro m
 induction m with
 | zero => intro _ _; simp [Lib.compactUpTo]
 | succ m ih =>
  intro hm hp
  obtain ⟨i1, i2⟩ := ih (by omega) hp
  have hz : zs.toArray[m]! = zs[m] := by simp [getElem!_pos, show m < zs.length by omega]
  have htk : zs.take (m + 1) = zs.take m ++ [zs[m]] := by rw [List.take_succ_eq_append_getElem (by omega)]
  rw [Lib.compactUpTo_succ, hz]
  have hle : ∀ n ∈ zs.take m, n ≤ zs[m] := by
   intro n hn
   obtain ⟨j, hj, rfl⟩ := List.mem_iff_getElem.1 hn
   have hj' : j < m := by simp at hj; omega
   rw [List.getElem_take]
   exact (List.pairwise_iff_getElem.1 hp) j m (by omega) (by omega) hj'
  by_cases hk : Lib.keeps zs.toArray m = true
  · rw [if_pos hk]
    constructor
    · rw [List.pairwise_append]
      refine ⟨i1, by simp, fun x hx y hy => ?_⟩
      simp at hy; subst hy
      have hx' := (i2 x).1 hx
      have h1 := hle x hx'
      by_cases hm0 : m = 0
      · subst hm0; simp at hx'
      · have hne : zs[m] ≠ zs[m - 1] := by
         intro he
         have : Lib.keeps zs.toArray m = false := Lib.keeps_neg (by omega) (by
          rw [hz]; simp [getElem!_pos, show m - 1 < zs.length by omega]; exact he)
         rw [hk] at this; cases this
        have h2 : x ≤ zs[m - 1] := by
         obtain ⟨j, hj, rfl⟩ := List.mem_iff_getElem.1 hx'
         have hj' : j < m := by simp at hj; omega
         rw [List.getElem_take]
         by_cases hjm : j = m - 1
         · subst hjm; exact Int.le_refl _
         · exact (List.pairwise_iff_getElem.1 hp) j (m - 1) (by omega) (by omega) (by omega)
        have h3 := (List.pairwise_iff_getElem.1 hp) (m - 1) m (by omega) (by omega) (by omega)
        omega
    · intro n
      rw [htk, List.mem_append, List.mem_append, i2]
  · rw [if_neg hk, List.append_nil]
    refine ⟨i1, fun n => ?_⟩
    rw [htk, List.mem_append, i2, List.mem_singleton]
    refine ⟨.inl, ?_⟩
    rintro (h | rfl)
    · exact h
    · have hm0 : m ≠ 0 := by rintro rfl; exact hk (Lib.keeps_lt_one _ 0 (by omega))
      have he : zs[m] = zs[m - 1] := by
       by_cases he : zs[m] = zs[m - 1]
       · exact he
       · exact absurd (Lib.keeps_pos (d := zs.toArray) (m := m) (by rw [hz]; simp [getElem!_pos, show m - 1 < zs.length by omega]; exact he)) hk
      rw [he]
      exact List.mem_take_iff_getElem.2 ⟨m - 1, by omega, rfl⟩
theorem comp_ok (zs : List Int) (hp : zs.Pairwise (· ≤ ·)) : (Lib.compact zs).Pairwise (· < ·) ∧ ∀ n, n ∈ Lib.compact zs ↔ n ∈ zs := by
 have := comp_split zs zs.length (Nat.le_refl _) hp
 rw [List.take_length] at this
 exact this
theorem sort_sorted (l : List Int) : (sortI l).Pairwise (· ≤ ·) := by
 have := List.pairwise_mergeSort (le := fun x y : Int => decide (x ≤ y)) (fun a b c h1 h2 => by simp at *; omega) (fun a b => by simp; omega) l
 exact this.imp (by intro a b h; simpa using h)
theorem sort_mem (l : List Int) (n : Int) : n ∈ sortI l ↔ n ∈ l := by simp [sortI, List.mem_mergeSort]
theorem Pat.bound_mem {p : Pat} (n : Int) : n ∈ p.bound ↔ n ∈ bndF p.nodes := by
 rw [Pat.bound, (comp_ok _ (sort_sorted _)).2, sort_mem]
theorem Pat.bound_nodup (p : Pat) : p.bound.Pairwise (· < ·) := (comp_ok _ (sort_sorted _)).1
theorem chk_zero {p : Pat} (h : p.chk = 0) : p.wholeE = 0 ∧ (cfold p.nodes).2.2 = true := by
 unfold Pat.chk at h
 split at h
 · exact absurd h (by assumption)
 · rename_i h1
   split at h
   · exact ⟨by simpa using h1, by assumption⟩
   · cases h
theorem cfold_pre (a b : List Pat) (h : (cfold (a ++ b)).2.2 = true) : (cfold a).2.2 = true := by
 unfold cfold at *
 rw [List.foldl_append] at h
 generalize a.foldl cstep (0, 0, true) = s at *
 induction b generalizing s with
 | nil => exact h
 | cons q r ih =>
  have := ih _ h
  simp only [cstep, Bool.and_eq_true] at this
  exact this.1.1
theorem bndF_cons (q : Pat) (r : List Pat) : bndF (q :: r) = (if q.op = 0 then [q.var] else []) ++ bndF r := by
 unfold bndF; rw [List.filter_cons]; by_cases h : q.op = 0 <;> simp [h]
theorem cnt_node : ∀ p : Pat, ∀ q ∈ p.nodes, q.cnt ≤ p.cnt ∧ q.dep ≤ p.dep ∧ (∀ x ∈ q.nodes, x ∈ p.nodes) := by
 refine Pat.ind fun o a t v s n c ih q hq => ?_
 rw [Pat.nodes, List.mem_cons] at hq
 rcases hq with rfl | hq
 · exact ⟨Nat.le_refl _, Nat.le_refl _, fun x hx => hx⟩
 · obtain ⟨e, he, hqe⟩ := Pat.mem_nodesL hq
   obtain ⟨h1, h2, h3⟩ := ih e he q hqe
   have h4 := Pat.cnt_mem he
   have h5 : e.dep ≤ Pat.depL 0 a := by
    have : ∀ (l : List Pat) (d : Nat), d ≤ Pat.depL d l ∧ ∀ e ∈ l, e.dep ≤ Pat.depL d l := by
     intro l
     induction l with
     | nil => intro d; simp [Pat.depL]
     | cons x r ih =>
      intro d
      have := ih (max d x.dep)
      rw [Pat.depL]
      refine ⟨by omega, fun e he => ?_⟩
      rcases List.mem_cons.1 he with rfl | he
      · omega
      · exact this.2 e he
    exact (this a 0).2 e he
   refine ⟨by rw [Pat.cnt]; omega, by rw [Pat.dep]; omega, fun x hx => ?_⟩
   rw [Pat.nodes]
   refine List.mem_cons_of_mem _ ?_
   obtain ⟨l1, l2, rfl⟩ := List.append_of_mem he
   rw [Pat.nodesL_append, Pat.nodesL]
   simp [h3 x hx]
theorem chkR_zero {p : Pat} : p.chkR = 0 ↔ p.cnt ≤ 64 ∧ p.dep ≤ 12 ∧ ∀ q ∈ p.nodes, q.nodeE = 0 := by
 unfold Pat.chkR
 by_cases h1 : 64 < p.cnt
 · rw [if_pos h1]; simp; omega
 rw [if_neg h1]
 by_cases h2 : 12 < p.dep
 · rw [if_pos h2]; simp; omega
 rw [if_neg h2]
 exact ⟨fun h => ⟨by omega, by omega, firstE_zero h⟩, fun h => firstE_ok h.2.2⟩
end Go.Am
end
