/- Contracts of the program's functions, for every argument that meets the conditions that each theorem names. -/
import Derived.Test.YtdbikeconboifaaDoorAm6
import Derived.Test.YtdbikeconboifaaDoorCt4
import Derived.Test.YtdbikeconboifaaDoorCt2
import Derived.Test.YtdbikeconboifaaDoorCt3
section
set_option linter.unusedVariables false
set_option linter.unusedSimpArgs false
set_option maxRecDepth 20000
namespace Go.Am
open Go.Proofs
theorem P_SameInts (a a2 : List Int) (hlen : a.length < 1048577) : PCall EE 16 [.isl 1 (mapE int a), .isl 1 (mapE int a2)] (bool (eqB a a2)) := by
  have hcl := closedI_int a
  have hcl2 := closedI_int a2
  obtain ⟨R, hR⟩ : ∃ R, R = eqB a a2 := ⟨_, rfl⟩
  rw [← hR]
  refine words fun iLt iLe iEq iNe iAdd iSub iMul iQuo iRem iShr iNeg iCvt iMax iMin bNot bEq bNe bAnd bOr sEq sNe sLen sCat sCut sAt lenA lenN iOf natOf atA atN cutA partA dropA catA setA repA putA idxN addN subN minN lenCut rowA hX e_iLt e_iLe e_iEq e_iNe e_iAdd e_iSub e_iMul e_iQuo e_iRem e_iShr e_iNeg e_iCvt e_iMax e_iMin e_bNot e_bEq e_bNe e_bAnd e_bOr e_sEq e_sNe e_sLen e_sCat e_sCut e_sAt e_lenA e_lenN e_iOf e_natOf e_atA e_atN e_cutA e_partA e_dropA e_catA e_setA e_repA e_putA e_idxN e_addN e_subN e_minN e_lenCut e_rowA ee => ?_
  generalize hes : mapE int a = es at *
  generalize hes2 : mapE int a2 = es2 at *
  have hel : es.length = a.length := by rw [← hes, mapE_len]
  have hel2 : es2.length = a2.length := by rw [← hes2, mapE_len]
  refine fn_body (fn := Tryd.f16) (n := 26) (ac := Trydc16) (rvs := [.t 4]) rfl (by decide) Trydp16 rfl rfl rfl ?_
  by_cases hl8 : a.length = a2.length
  rotate_left
  · have hR : R = false := by rw [hR]; exact eqB_f (fun h => hl8 (by rw [h]))
    have hln : iNe (lenA es) (lenA es2) = true := by simp only [ee]; simp; omega
    refine goB hX 0 (by conv => lhs; cbv; try simp only [hln]; cbv; try simp only [hln]; cbv; try simp only [hln]; cbv; try simp only [hln]; cbv) ?_
    refine goA 60 ?_
    refine fn_ret rfl rfl (.val ?_)
    exact congrArg Value.bool hR.symm
  have hln : iNe (lenA es) (lenA es2) = false := by simp only [ee]; simp; omega
  refine goB hX 0 (by conv => lhs; cbv; try simp only [hln]; cbv; try simp only [hln]; cbv; try simp only [hln]; cbv; try simp only [hln]; cbv) ?_
  refine goA 60 ?_
  refine on_loopP (ι := List Int × List Int × List Int × List Int × Int) (fun p => ([(5, int p.2.2.2.2), (0, .isl 1 es), (1, .isl 1 es2)], [])) (fun p => a = p.1 ++ p.2.1 ∧ a2 = p.2.2.1 ++ p.2.2.2.1 ∧ p.2.2.2.2 = p.1.length ∧ p.1 = p.2.2.1) (fun p => p.2.1.length) ([], a, [], a2, 0) ⟨rfl, rfl, rfl, rfl⟩ ?_ ?_
  · exact (ent_sub [] [] trivial trivial ⟨.refl _, .cl hcl, .cl hcl2, trivial⟩)
  rintro ⟨d, r, d2, r2, i⟩ ⟨g1, g2, gi, gd⟩
  dsimp only at g1 g2 gi gd ⊢
  subst gd
  cases r with
  | nil =>
    have L1 := len_split g1
    try simp only [List.length_cons, List.length_nil] at L1
    have hc : iLt i (lenA es) = false := lt_f e_iLt e_lenA (by omega)
    have L2 := len_split g2
    try simp only [List.length_cons, List.length_nil] at L2
    have hr2 : r2 = [] := List.length_eq_zero_iff.1 (by omega)
    have hR : R = true := by rw [hR]; exact eqB_t (by rw [g1, g2, hr2])
    refine goB hX 0 (by conv => lhs; cbv; try simp only [hc]; cbv; try simp only [hc]; cbv; try simp only [hc]; cbv; try simp only [hc]; cbv) ?_
    refine goA 60 ?_
    refine loopP_exit ?_
    refine goA 60 ?_
    refine fn_ret rfl rfl (.val ?_)
    exact congrArg Value.bool hR.symm
  | cons q r =>
    have L1 := len_split g1
    try simp only [List.length_cons, List.length_nil] at L1
    have hc : iLt i (lenA es) = true := lt_t e_iLt e_lenA (by omega)
    have hat := el_at e_atA hes g1 gi
    have L2 := len_split g2
    try simp only [List.length_cons, List.length_nil] at L2
    cases r2 with
    | nil => exfalso; simp at L2; omega
    | cons q2 r2 =>
      have hat2 := el_at e_atA hes2 g2 gi
      have hi2 : iAdd .i64 i 1 = ((d ++ [q]).length : Int) := by rw [List.length_append]; exact inc_w e_iAdd gi (by omega)
      by_cases hqq : q = q2
      · have k1 : iNe q q2 = false := by simp only [ee]; simpa using hqq
        refine goB hX 0 (by conv => lhs; cbv; try simp only [hc, hat, hat2, k1]; cbv; try simp only [hc, hat, hat2, k1]; cbv; try simp only [hc, hat, hat2, k1]; cbv; try simp only [hc, hat, hat2, k1]; cbv) ?_
        refine goB hX 1 (by conv => lhs; cbv; try simp only [hc, hat, hat2, k1]; cbv; try simp only [hc, hat, hat2, k1]; cbv; try simp only [hc, hat, hat2, k1]; cbv; try simp only [hc, hat, hat2, k1]; cbv) ?_
        refine goA 60 ?_
        refine loopP_next (d ++ [q], r, d ++ [q2], r2, iAdd .i64 i 1) ⟨by simp [g1], by simp [g2], hi2, by simp [hqq]⟩ (by simp) (ent_sub [] [] trivial trivial ⟨.refl _, .cl hcl, .cl hcl2, trivial⟩)
      · have k1 : iNe q q2 = true := by simp only [ee]; simpa using hqq
        have hR : R = false := by rw [hR]; exact eqB_f (by rw [g1, g2]; simp [hqq])
        refine goB hX 0 (by conv => lhs; cbv; try simp only [hc, hat, hat2, k1]; cbv; try simp only [hc, hat, hat2, k1]; cbv; try simp only [hc, hat, hat2, k1]; cbv; try simp only [hc, hat, hat2, k1]; cbv) ?_
        refine goB hX 1 (by conv => lhs; cbv; try simp only [hc, hat, hat2, k1]; cbv; try simp only [hc, hat, hat2, k1]; cbv; try simp only [hc, hat, hat2, k1]; cbv; try simp only [hc, hat, hat2, k1]; cbv) ?_
        refine goA 60 ?_
        refine loopP_ret ?_
        refine goA 60 ?_
        refine fn_ret rfl rfl (.val ?_)
        exact congrArg Value.bool hR.symm
theorem P_SameLimits (a a2 : List Lim) (hlen : a.length < 1048577) : PCall EE 15 [.isl 2 (mapE Lim.enc a), .isl 2 (mapE Lim.enc a2)] (bool (eqB a a2)) := by
  have hcl : (AV.isl 2 (mapE Lim.enc a)).closed = true := by simp [AV.closed, closedL_lim]
  have hcl2 : (AV.isl 2 (mapE Lim.enc a2)).closed = true := by simp [AV.closed, closedL_lim]
  obtain ⟨R, hR⟩ : ∃ R, R = eqB a a2 := ⟨_, rfl⟩
  rw [← hR]
  refine words fun iLt iLe iEq iNe iAdd iSub iMul iQuo iRem iShr iNeg iCvt iMax iMin bNot bEq bNe bAnd bOr sEq sNe sLen sCat sCut sAt lenA lenN iOf natOf atA atN cutA partA dropA catA setA repA putA idxN addN subN minN lenCut rowA hX e_iLt e_iLe e_iEq e_iNe e_iAdd e_iSub e_iMul e_iQuo e_iRem e_iShr e_iNeg e_iCvt e_iMax e_iMin e_bNot e_bEq e_bNe e_bAnd e_bOr e_sEq e_sNe e_sLen e_sCat e_sCut e_sAt e_lenA e_lenN e_iOf e_natOf e_atA e_atN e_cutA e_partA e_dropA e_catA e_setA e_repA e_putA e_idxN e_addN e_subN e_minN e_lenCut e_rowA ee => ?_
  generalize hes : mapE Lim.enc a = es at *
  generalize hes2 : mapE Lim.enc a2 = es2 at *
  have hel : es.length = a.length := by rw [← hes, mapE_len]
  have hel2 : es2.length = a2.length := by rw [← hes2, mapE_len]
  refine fn_body (fn := Tryd.f15) (n := 26) (ac := Trydc15) (rvs := [.t 4]) rfl (by decide) Trydp15 rfl rfl rfl ?_
  by_cases hl8 : a.length = a2.length
  rotate_left
  · have hR : R = false := by rw [hR]; exact eqB_f (fun h => hl8 (by rw [h]))
    have hln : iNe (lenA es) (lenA es2) = true := by simp only [ee]; simp; omega
    refine goB hX 0 (by conv => lhs; cbv; try simp only [hln]; cbv; try simp only [hln]; cbv; try simp only [hln]; cbv; try simp only [hln]; cbv) ?_
    refine goA 60 ?_
    refine fn_ret rfl rfl (.val ?_)
    exact congrArg Value.bool hR.symm
  have hln : iNe (lenA es) (lenA es2) = false := by simp only [ee]; simp; omega
  refine goB hX 0 (by conv => lhs; cbv; try simp only [hln]; cbv; try simp only [hln]; cbv; try simp only [hln]; cbv; try simp only [hln]; cbv) ?_
  refine goA 60 ?_
  refine on_loopP (ι := List Lim × List Lim × List Lim × List Lim × Int) (fun p => ([(5, int p.2.2.2.2), (0, .isl 2 es), (1, .isl 2 es2)], [])) (fun p => a = p.1 ++ p.2.1 ∧ a2 = p.2.2.1 ++ p.2.2.2.1 ∧ p.2.2.2.2 = p.1.length ∧ p.1 = p.2.2.1) (fun p => p.2.1.length) ([], a, [], a2, 0) ⟨rfl, rfl, rfl, rfl⟩ ?_ ?_
  · exact (ent_sub [] [] trivial trivial ⟨.refl _, .cl hcl, .cl hcl2, trivial⟩)
  rintro ⟨d, r, d2, r2, i⟩ ⟨g1, g2, gi, gd⟩
  dsimp only at g1 g2 gi gd ⊢
  subst gd
  cases r with
  | nil =>
    have L1 := len_split g1
    try simp only [List.length_cons, List.length_nil] at L1
    have hc : iLt i (lenA es) = false := lt_f e_iLt e_lenA (by omega)
    have L2 := len_split g2
    try simp only [List.length_cons, List.length_nil] at L2
    have hr2 : r2 = [] := List.length_eq_zero_iff.1 (by omega)
    have hR : R = true := by rw [hR]; exact eqB_t (by rw [g1, g2, hr2])
    refine goB hX 0 (by conv => lhs; cbv; try simp only [hc]; cbv; try simp only [hc]; cbv; try simp only [hc]; cbv; try simp only [hc]; cbv) ?_
    refine goA 60 ?_
    refine loopP_exit ?_
    refine goA 60 ?_
    refine fn_ret rfl rfl (.val ?_)
    exact congrArg Value.bool hR.symm
  | cons q r =>
    have L1 := len_split g1
    try simp only [List.length_cons, List.length_nil] at L1
    have hc : iLt i (lenA es) = true := lt_t e_iLt e_lenA (by omega)
    have hat := el_at e_atA hes g1 gi
    have L2 := len_split g2
    try simp only [List.length_cons, List.length_nil] at L2
    cases r2 with
    | nil => exfalso; simp at L2; omega
    | cons q2 r2 =>
      have hat2 := el_at e_atA hes2 g2 gi
      have hi2 : iAdd .i64 i 1 = ((d ++ [q]).length : Int) := by rw [List.length_append]; exact inc_w e_iAdd gi (by omega)
      obtain ⟨s1, n1⟩ := q
      obtain ⟨s2, n2⟩ := q2
      unfold Lim.enc at hat hat2
      dsimp only at hat hat2
      have hb : ∀ b, bAnd b true = b := by simp [ee]
      by_cases hqq : s1 = s2 ∧ n1 = n2
      · have k1 : bNot (bAnd (iEq s1 s2) (bAnd (iEq n1 n2) true)) = false := by simp only [ee]; simp [hqq]
        refine goB hX 0 (by conv => lhs; cbv; try simp only [hc, hat, hat2, k1]; cbv; try simp only [hc, hat, hat2, k1]; cbv; try simp only [hc, hat, hat2, k1]; cbv; try simp only [hc, hat, hat2, k1]; cbv) ?_
        refine goB hX 1 (by conv => lhs; cbv; try simp only [hc, hat, hat2, k1]; cbv; try simp only [hc, hat, hat2, k1]; cbv; try simp only [hc, hat, hat2, k1]; cbv; try simp only [hc, hat, hat2, k1]; cbv) ?_
        refine goA 60 ?_
        refine loopP_next (d ++ [⟨s1, n1⟩], r, d ++ [⟨s2, n2⟩], r2, iAdd .i64 i 1) ⟨by simp [g1], by simp [g2], hi2, by simp [hqq]⟩ (by simp) (ent_sub [] [] trivial trivial ⟨.refl _, .cl hcl, .cl hcl2, trivial⟩)
      · have k1 : bNot (bAnd (iEq s1 s2) (bAnd (iEq n1 n2) true)) = true := by simp only [ee]; simp; omega
        have hR : R = false := by rw [hR]; exact eqB_f (by rw [g1, g2]; simp; intro h h2; exact absurd ⟨h, h2⟩ hqq)
        refine goB hX 0 (by conv => lhs; cbv; try simp only [hc, hat, hat2, k1]; cbv; try simp only [hc, hat, hat2, k1]; cbv; try simp only [hc, hat, hat2, k1]; cbv; try simp only [hc, hat, hat2, k1]; cbv) ?_
        refine goB hX 1 (by conv => lhs; cbv; try simp only [hc, hat, hat2, k1]; cbv; try simp only [hc, hat, hat2, k1]; cbv; try simp only [hc, hat, hat2, k1]; cbv; try simp only [hc, hat, hat2, k1]; cbv) ?_
        refine goA 60 ?_
        refine loopP_ret ?_
        refine goA 60 ?_
        refine fn_ret rfl rfl (.val ?_)
        exact congrArg Value.bool hR.symm
def yesE : Ex := .mk 0 [] 0 0 0 ⟨1, 1, ⟨#[]⟩⟩
def eventP (k v : Int) : Pat := .mk 0 [] k v 0 0 yesE
def exampleP (a b : Int) : Pat := .mk 1 [eventP 0 a, .mk 6 [.mk 4 [eventP 1 b] 0 0 0 0 Ex0] 0 0 0 5 Ex0] 0 0 0 0 Ex0
theorem yesE.enc_eq : yesE.enc = .agg [int 0, .isl 8 [], int 0, int 0, int 0, int 1, int 1, str ⟨#[]⟩] := by
  rw [yesE, Ex.enc_mk, mapE_eq]; rfl
theorem eventP.enc_eq (k v : Int) : (eventP k v).enc = .agg [int 0, .isl 14 [], int k, int v, int 0, int 0, int 0, .isl 8 [], int 0, int 0, int 0, int 1, int 1, str ⟨#[]⟩] := by
  rw [eventP, yesE, Pat.enc_mk, mapE_eq, mapE_eq]; rfl
theorem P_Flag (b : Bool) : PCall EE 49 [bool b] (.agg [int 1, int (if b then 1 else 0), str ⟨#[]⟩]) := by
  refine words fun iLt iLe iEq iNe iAdd iSub iMul iQuo iRem iShr iNeg iCvt iMax iMin bNot bEq bNe bAnd bOr sEq sNe sLen sCat sCut sAt lenA lenN iOf natOf atA atN cutA partA dropA catA setA repA putA idxN addN subN minN lenCut rowA hX e_iLt e_iLe e_iEq e_iNe e_iAdd e_iSub e_iMul e_iQuo e_iRem e_iShr e_iNeg e_iCvt e_iMax e_iMin e_bNot e_bEq e_bNe e_bAnd e_bOr e_sEq e_sNe e_sLen e_sCat e_sCut e_sAt e_lenA e_lenN e_iOf e_natOf e_atA e_atN e_cutA e_partA e_dropA e_catA e_setA e_repA e_putA e_idxN e_addN e_subN e_minN e_lenCut e_rowA ee => ?_
  refine fn_body (fn := Tryd.f49) (n := 6) (ac := Trydc49) (rvs := [.cell 2 3 true]) rfl (by decide) Trydp49 rfl rfl rfl ?_
  cases b with
  | true =>
    refine goA 60 ?_
    refine fn_ret rfl rfl ?_
    exact ⟨[.gone], ⟨trivial, trivial⟩, .refl _⟩
  | false =>
    refine goA 60 ?_
    refine fn_ret rfl rfl ?_
    exact ⟨[.gone], ⟨trivial, trivial⟩, .refl _⟩
theorem P_yes : PCall EE 28 [] yesE.enc := by
  have h1 : PCall EE 49 [bool true] (.agg [int 1, int 1, str ⟨#[]⟩]) := P_Flag true
  rw [yesE.enc_eq]
  refine words fun iLt iLe iEq iNe iAdd iSub iMul iQuo iRem iShr iNeg iCvt iMax iMin bNot bEq bNe bAnd bOr sEq sNe sLen sCat sCut sAt lenA lenN iOf natOf atA atN cutA partA dropA catA setA repA putA idxN addN subN minN lenCut rowA hX e_iLt e_iLe e_iEq e_iNe e_iAdd e_iSub e_iMul e_iQuo e_iRem e_iShr e_iNeg e_iCvt e_iMax e_iMin e_bNot e_bEq e_bNe e_bAnd e_bOr e_sEq e_sNe e_sLen e_sCat e_sCut e_sAt e_lenA e_lenN e_iOf e_natOf e_atA e_atN e_cutA e_partA e_dropA e_catA e_setA e_repA e_putA e_idxN e_addN e_subN e_minN e_lenCut e_rowA ee => ?_
  refine fn_body (fn := Tryd.f28) (n := 3) (ac := Trydc28) (rvs := [.cell 0 8 true]) rfl (by decide) Trydp28 rfl rfl rfl ?_
  refine goA 60 ?_
  refine on_pcall (args := [bool true]) rfl rfl rfl h1 rfl ?_
  refine goA 60 ?_
  refine fn_ret rfl rfl ?_
  exact ⟨[.gone], ⟨trivial, trivial⟩, .agg' ⟨.refl _, .nilI _, .refl _, .refl _, .refl _, .refl _, .refl _, .refl _, trivial⟩⟩
theorem P_event (k v : Int) : PCall EE 27 [int k, int v] (eventP k v).enc := by
  have h1 := P_yes
  rw [yesE.enc_eq] at h1
  rw [eventP.enc_eq]
  refine words fun iLt iLe iEq iNe iAdd iSub iMul iQuo iRem iShr iNeg iCvt iMax iMin bNot bEq bNe bAnd bOr sEq sNe sLen sCat sCut sAt lenA lenN iOf natOf atA atN cutA partA dropA catA setA repA putA idxN addN subN minN lenCut rowA hX e_iLt e_iLe e_iEq e_iNe e_iAdd e_iSub e_iMul e_iQuo e_iRem e_iShr e_iNeg e_iCvt e_iMax e_iMin e_bNot e_bEq e_bNe e_bAnd e_bOr e_sEq e_sNe e_sLen e_sCat e_sCut e_sAt e_lenA e_lenN e_iOf e_natOf e_atA e_atN e_cutA e_partA e_dropA e_catA e_setA e_repA e_putA e_idxN e_addN e_subN e_minN e_lenCut e_rowA ee => ?_
  refine fn_body (fn := Tryd.f27) (n := 9) (ac := Trydc27) (rvs := [.cell 4 14 true]) rfl (by decide) Trydp27 rfl rfl rfl ?_
  refine goA 60 ?_
  refine on_pcall (args := []) rfl rfl rfl h1 rfl ?_
  refine goA 60 ?_
  refine fn_ret rfl rfl ?_
  exact ⟨[.gone], ⟨trivial, trivial⟩, .agg' ⟨.refl _, .nilI _, .refl _, .refl _, .refl _, .refl _, .refl _, .refl _, .refl _, .refl _, .refl _, .refl _, .refl _, .refl _, trivial⟩⟩
end Go.Am
end
section
set_option linter.unusedVariables false
set_option linter.unusedSimpArgs false
set_option maxRecDepth 20000
namespace Go.Am
open Go.Proofs
set_option maxHeartbeats 1000000 in
theorem P_ref08_Same : ∀ x y : Ex, x.Sm → PCall EE 30 [x.enc, y.enc] (bool (eqB x y)) := by
  refine Ex.ind ?_
  intro o a v f k x ih y hs
  obtain ⟨o2, a2, v2, f2, k2, x2⟩ := y
  obtain ⟨xk, xn, xt⟩ := x
  obtain ⟨yk, yn, yt⟩ := x2
  have hlen := hs.len
  have hih : ∀ q ∈ a, ∀ q2, PCall EE 30 [q.enc, q2.enc] (bool (eqB q q2)) := fun q hq q2 => ih q hq q2 (hs.arg hq)
  have hcl := Ex.closedI a
  have hcl2 := Ex.closedI a2
  obtain ⟨R, hR⟩ : ∃ R, R = eqB (Ex.mk o a v f k ⟨xk, xn, xt⟩) (Ex.mk o2 a2 v2 f2 k2 ⟨yk, yn, yt⟩) := ⟨_, rfl⟩
  rw [← hR, Ex.enc_mk, Ex.enc_mk]
  clear ih hs
  refine words fun iLt iLe iEq iNe iAdd iSub iMul iQuo iRem iShr iNeg iCvt iMax iMin bNot bEq bNe bAnd bOr sEq sNe sLen sCat sCut sAt lenA lenN iOf natOf atA atN cutA partA dropA catA setA repA putA idxN addN subN minN lenCut rowA hX e_iLt e_iLe e_iEq e_iNe e_iAdd e_iSub e_iMul e_iQuo e_iRem e_iShr e_iNeg e_iCvt e_iMax e_iMin e_bNot e_bEq e_bNe e_bAnd e_bOr e_sEq e_sNe e_sLen e_sCat e_sCut e_sAt e_lenA e_lenN e_iOf e_natOf e_atA e_atN e_cutA e_partA e_dropA e_catA e_setA e_repA e_putA e_idxN e_addN e_subN e_minN e_lenCut e_rowA ee => ?_
  generalize hes : mapE Ex.enc a = es at *
  generalize hes2 : mapE Ex.enc a2 = es2 at *
  have hel : es.length = a.length := by rw [← hes, mapE_len]
  have hel2 : es2.length = a2.length := by rw [← hes2, mapE_len]
  refine fn_body (fn := Tryd.f30) (n := 67) (ac := Trydc30) (rvs := [.t 4]) rfl (by decide) Trydp30 rfl rfl rfl ?_
  refine goA 0 ?_
  refine on_cond rfl (fun c1 => ?_) (fun c1 => ?_)
  · simp [ee] at c1
    have hR : R = false := by
      rw [hR]; refine eqB_f fun h => ?_
      simp only [Ex.mk.injEq, Vl.mk.injEq] at h
      obtain ⟨rfl, rfl, rfl, rfl, rfl, rfl, rfl, rfl⟩ := h
      simp [hel, hel2] at c1
    refine goA 60 ?_
    refine fn_ret rfl rfl (.val ?_)
    exact congrArg Value.bool hR.symm
  simp [ee] at c1
  obtain ⟨⟨⟨⟨⟨h1, h2⟩, h3⟩, h4⟩, ⟨h5, h6, h7⟩⟩, h8⟩ := c1
  have h7 := bs_inj h7
  subst h1 h2 h3 h4 h5 h6 h7
  have hl8 : a.length = a2.length := by omega
  have hR : R = eqB a a2 := by
    rw [hR]
    by_cases h : a = a2
    · rw [h, eqB_t rfl, eqB_t rfl]
    · rw [eqB_f h, eqB_f (by simp [h])]
  refine goA 60 ?_
  refine on_loopP (ι := List Ex × List Ex × List Ex × List Ex × Int) (fun p => ([(5, int p.2.2.2.2), (2, .ptr 0 0), (3, .ptr 1 0)], [.cells [int o, .isl 8 es, int v, int f, int k, int xk, int xn, str xt], .cells [int o, .isl 8 es2, int v, int f, int k, int xk, int xn, str xt]])) (fun p => a = p.1 ++ p.2.1 ∧ a2 = p.2.2.1 ++ p.2.2.2.1 ∧ p.2.2.2.2 = p.1.length ∧ p.1 = p.2.2.1) (fun p => p.2.1.length) ([], a, [], a2, 0) ⟨rfl, rfl, rfl, rfl⟩ ?_ ?_
  · exact (ent_sub [.to 0, .to 1] [some 0, some 1] ⟨⟨by simp, rfl⟩, ⟨by simp, rfl⟩, trivial⟩ ⟨osrc_cells (b := 0) rfl rfl rfl ⟨.refl _, .cl hcl, .refl _, .refl _, .refl _, .refl _, .refl _, .refl _, trivial⟩, osrc_cells (b := 1) rfl rfl rfl ⟨.refl _, .cl hcl2, .refl _, .refl _, .refl _, .refl _, .refl _, .refl _, trivial⟩, trivial⟩ ⟨.refl _, .refl _, .refl _, trivial⟩)
  rintro ⟨d, r, d2, r2, i⟩ ⟨g1, g2, gi, gd⟩
  dsimp only at g1 g2 gi gd ⊢
  subst gd
  cases r with
  | nil =>
    have L1 := len_split g1
    try simp only [List.length_cons, List.length_nil] at L1
    have hc : iLt i (lenA es) = false := lt_f e_iLt e_lenA (by omega)
    have L2 := len_split g2
    try simp only [List.length_cons, List.length_nil] at L2
    have hr2 : r2 = [] := List.length_eq_zero_iff.1 (by omega)
    have hR : R = true := by rw [hR]; exact eqB_t (by rw [g1, g2, hr2])
    refine goB hX 0 (by conv => lhs; cbv; try simp only [hc]; cbv; try simp only [hc]; cbv; try simp only [hc]; cbv; try simp only [hc]; cbv) ?_
    refine goA 60 ?_
    refine loopP_exit ?_
    refine goA 60 ?_
    refine fn_ret rfl rfl (.val ?_)
    exact congrArg Value.bool hR.symm
  | cons q r =>
    have L1 := len_split g1
    try simp only [List.length_cons, List.length_nil] at L1
    have hc : iLt i (lenA es) = true := lt_t e_iLt e_lenA (by omega)
    have hat := el_at e_atA hes g1 gi
    have L2 := len_split g2
    try simp only [List.length_cons, List.length_nil] at L2
    cases r2 with
    | nil => exfalso; simp at L2; omega
    | cons q2 r2 =>
      have hat2 := el_at e_atA hes2 g2 gi
      have hq := hih q (by rw [g1]; simp) q2
      have hqc := Ex.closed q
      have hqc2 := Ex.closed q2
      obtain ⟨qO, qA, qV, qF, qK, qXk, qXn, qXt, hx⟩ := Ex.form q
      obtain ⟨q2O, q2A, q2V, q2F, q2K, q2Xk, q2Xn, q2Xt, hx2⟩ := Ex.form q2
      rw [hx, hx2] at hq
      rw [hx] at hat hqc
      rw [hx2] at hat2 hqc2
      have hi2 : iAdd .i64 i 1 = ((d ++ [q]).length : Int) := by rw [List.length_append]; exact inc_w e_iAdd gi (by omega)
      by_cases hqq : q = q2
      · rw [eqB_t hqq] at hq
        have hn : bNot true = false := by simp [ee]
        refine goB hX 0 (by conv => lhs; cbv; try simp only [hc, hat, hat2, hn]; cbv; try simp only [hc, hat, hat2, hn]; cbv; try simp only [hc, hat, hat2, hn]; cbv; try simp only [hc, hat, hat2, hn]; cbv) ?_
        refine goB hX 1 (by conv => lhs; cbv; try simp only [hc, hat, hat2, hn]; cbv; try simp only [hc, hat, hat2, hn]; cbv; try simp only [hc, hat, hat2, hn]; cbv; try simp only [hc, hat, hat2, hn]; cbv) ?_
        refine tr_drawB rfl (by conv => lhs; cbv) rfl ?_
        refine tgB hX (by conv => lhs; cbv; try simp only [hc, hat, hat2, hn]; cbv; try simp only [hc, hat, hat2, hn]; cbv; try simp only [hc, hat, hat2, hn]; cbv; try simp only [hc, hat, hat2, hn]; cbv) ?_
        refine tr_pcall (args := [AV.agg [int qO, AV.isl 8 qA, int qV, int qF, int qK, int qXk, int qXn, str qXt], AV.agg [int q2O, AV.isl 8 q2A, int q2V, int q2F, int q2K, int q2Xk, int q2Xn, str q2Xt]]) rfl rfl rfl hq (by simp [AV.closedL, closed_v, closed_agg, hqc, hqc2]) ?_
        refine tgA ?_
        refine tr_nil ⟨rfl, ?_, ?_⟩
        · simp only [LooksL, lookAll, List.append, List.cons_append, List.nil_append, List.append_nil]; and_intros <;> first | trivial | (intro hp; first | rfl | exact absurd (show false = true from hp) Bool.false_ne_true)
        refine goB hX 0 (by conv => lhs; cbv; try simp only [hc, hat, hat2, hn]; cbv; try simp only [hc, hat, hat2, hn]; cbv; try simp only [hc, hat, hat2, hn]; cbv; try simp only [hc, hat, hat2, hn]; cbv) ?_
        refine goA 60 ?_
        refine loopP_next (d ++ [q], r, d ++ [q2], r2, iAdd .i64 i 1) ⟨by simp [g1], by simp [g2], hi2, by simp [hqq]⟩ (by simp) (ent_sub [.to 0, .to 1] [some 0, some 1] ⟨⟨by simp, rfl⟩, ⟨by simp, rfl⟩, trivial⟩ ⟨osrc_cells (b := 0) rfl rfl rfl ⟨.refl _, .cl hcl, .refl _, .refl _, .refl _, .refl _, .refl _, .refl _, trivial⟩, osrc_cells (b := 1) rfl rfl rfl ⟨.refl _, .cl hcl2, .refl _, .refl _, .refl _, .refl _, .refl _, .refl _, trivial⟩, trivial⟩ ⟨.refl _, .refl _, .refl _, trivial⟩)
      · rw [eqB_f hqq] at hq
        have hn : bNot false = true := by simp [ee]
        have hR : R = false := by rw [hR]; exact eqB_f (by rw [g1, g2]; simp [hqq])
        refine goB hX 0 (by conv => lhs; cbv; try simp only [hc, hat, hat2, hn]; cbv; try simp only [hc, hat, hat2, hn]; cbv; try simp only [hc, hat, hat2, hn]; cbv; try simp only [hc, hat, hat2, hn]; cbv) ?_
        refine goB hX 1 (by conv => lhs; cbv; try simp only [hc, hat, hat2, hn]; cbv; try simp only [hc, hat, hat2, hn]; cbv; try simp only [hc, hat, hat2, hn]; cbv; try simp only [hc, hat, hat2, hn]; cbv) ?_
        refine tr_drawB rfl (by conv => lhs; cbv) rfl ?_
        refine tgB hX (by conv => lhs; cbv; try simp only [hc, hat, hat2, hn]; cbv; try simp only [hc, hat, hat2, hn]; cbv; try simp only [hc, hat, hat2, hn]; cbv; try simp only [hc, hat, hat2, hn]; cbv) ?_
        refine tr_pcall (args := [AV.agg [int qO, AV.isl 8 qA, int qV, int qF, int qK, int qXk, int qXn, str qXt], AV.agg [int q2O, AV.isl 8 q2A, int q2V, int q2F, int q2K, int q2Xk, int q2Xn, str q2Xt]]) rfl rfl rfl hq (by simp [AV.closedL, closed_v, closed_agg, hqc, hqc2]) ?_
        refine tgA ?_
        refine tr_nil ⟨rfl, ?_, ?_⟩
        · simp only [LooksL, lookAll, List.append, List.cons_append, List.nil_append, List.append_nil]; and_intros <;> first | trivial | (intro hp; first | rfl | exact absurd (show false = true from hp) Bool.false_ne_true)
        refine goB hX 0 (by conv => lhs; cbv; try simp only [hc, hat, hat2, hn]; cbv; try simp only [hc, hat, hat2, hn]; cbv; try simp only [hc, hat, hat2, hn]; cbv; try simp only [hc, hat, hat2, hn]; cbv) ?_
        refine goA 60 ?_
        refine loopP_ret ?_
        refine goA 60 ?_
        refine fn_ret rfl rfl (.val ?_)
        exact congrArg Value.bool hR.symm
end Go.Am
end
section
set_option linter.unusedVariables false
set_option linter.unusedSimpArgs false
set_option maxRecDepth 20000
namespace Go.Am
open Go.Proofs
set_option maxHeartbeats 4000000 in
theorem P_ref09_Same : ∀ x y : Pat, x.Sm → PCall EE 11 [x.enc, y.enc] (bool (eqB x y)) := by
  refine Pat.ind ?_
  intro o a t v s n c ih y hs
  obtain ⟨o2, a2, t2, v2, s2, n2, c2⟩ := y
  have hlen := hs.len
  have hih : ∀ q ∈ a, ∀ q2, PCall EE 11 [q.enc, q2.enc] (bool (eqB q q2)) := fun q hq q2 => ih q hq q2 (hs.arg hq)
  have hcs := P_ref08_Same c c2 hs.cond
  have hcl := Pat.closedI a
  have hcl2 := Pat.closedI a2
  have hcc := Ex.closed c
  have hcc2 := Ex.closed c2
  obtain ⟨R, hR⟩ : ∃ R, R = eqB (Pat.mk o a t v s n c) (Pat.mk o2 a2 t2 v2 s2 n2 c2) := ⟨_, rfl⟩
  have hRe : o = o2 → t = t2 → v = v2 → s = s2 → n = n2 → c = c2 → R = eqB a a2 := by
    rintro rfl rfl rfl rfl rfl rfl
    rw [hR]
    by_cases h : a = a2
    · rw [h, eqB_t rfl, eqB_t rfl]
    · rw [eqB_f h, eqB_f (by simp [h])]
  have hRf : ¬(o = o2 ∧ t = t2 ∧ v = v2 ∧ s = s2 ∧ n = n2 ∧ c = c2 ∧ a.length = a2.length) → R = false := by
    intro h; rw [hR]; refine eqB_f fun h2 => h ?_
    simp only [Pat.mk.injEq] at h2
    obtain ⟨rfl, rfl, rfl, rfl, rfl, rfl, rfl⟩ := h2
    simp
  obtain ⟨B, hB⟩ : ∃ B, B = eqB c c2 := ⟨_, rfl⟩
  have hB1 : B = true → c = c2 := fun h => eqB_iff.1 (hB ▸ h)
  have hB2 : B = false → c ≠ c2 := fun h hc => by rw [hB, eqB_t hc] at h; cases h
  rw [← hB] at hcs
  rw [← hR]
  obtain ⟨cCo, cC, cv, cf, ck, cxk, cxn, cxt⟩ := c
  obtain ⟨dCo, dC, dv, df, dk, dxk, dxn, dxt⟩ := c2
  rw [Pat.enc_mk, Pat.enc_mk]
  rw [Ex.enc_mk] at hcc hcc2 hcs
  rw [Ex.enc_mk] at hcs
  dsimp only at hcc hcc2 hcs ⊢
  have hcC := Ex.closedI cC
  have hcD := Ex.closedI dC
  clear ih hs hR hB
  refine words fun iLt iLe iEq iNe iAdd iSub iMul iQuo iRem iShr iNeg iCvt iMax iMin bNot bEq bNe bAnd bOr sEq sNe sLen sCat sCut sAt lenA lenN iOf natOf atA atN cutA partA dropA catA setA repA putA idxN addN subN minN lenCut rowA hX e_iLt e_iLe e_iEq e_iNe e_iAdd e_iSub e_iMul e_iQuo e_iRem e_iShr e_iNeg e_iCvt e_iMax e_iMin e_bNot e_bEq e_bNe e_bAnd e_bOr e_sEq e_sNe e_sLen e_sCat e_sCut e_sAt e_lenA e_lenN e_iOf e_natOf e_atA e_atN e_cutA e_partA e_dropA e_catA e_setA e_repA e_putA e_idxN e_addN e_subN e_minN e_lenCut e_rowA ee => ?_
  generalize mapE Ex.enc cC = cC' at *
  generalize mapE Ex.enc dC = dC' at *
  generalize hes : mapE Pat.enc a = es at *
  generalize hes2 : mapE Pat.enc a2 = es2 at *
  have hel : es.length = a.length := by rw [← hes, mapE_len]
  have hel2 : es2.length = a2.length := by rw [← hes2, mapE_len]
  have hor : ∀ b, bOr false b = b := by simp [ee]
  have hor2 : ∀ b, bOr b false = b := by simp [ee]
  have hort : ∀ b, bOr true b = true := by simp [ee]
  have hne : ∀ z, iNe z z = false := by simp [ee]
  have hnt : bNot true = false := by simp [ee]
  have hnf : bNot false = true := by simp [ee]
  refine fn_body (fn := Tryd.f11) (n := 75) (ac := Trydc11) (rvs := [.t 4]) rfl (by decide) Trydp11 rfl rfl rfl ?_
  by_cases hd : o = o2 ∧ t = t2 ∧ v = v2 ∧ s = s2 ∧ n = n2
  rotate_left
  · have hR : R = false := hRf (fun h => hd ⟨h.1, h.2.1, h.2.2.1, h.2.2.2.1, h.2.2.2.2.1⟩)
    have hbig : bOr (bOr (bOr (bOr (iNe o o2) (iNe t t2)) (iNe v v2)) (iNe s s2)) (iNe n n2) = true := by
      simp only [ee]
      simp only [Bool.or_eq_true, bne_iff_ne, ne_eq]
      by_cases h1 : o = o2 <;> by_cases h2 : t = t2 <;> by_cases h3 : v = v2 <;> by_cases h4 : s = s2 <;> by_cases h5 : n = n2 <;> simp_all
    refine goB hX 0 (by conv => lhs; cbv; try simp only [hbig, hor, hort]; cbv; try simp only [hbig, hor, hort]; cbv; try simp only [hbig, hor, hort]; cbv; try simp only [hbig, hor, hort]; cbv) ?_
    refine goA 60 ?_
    refine on_gskip rfl rfl ?_
    refine goB hX 0 (by conv => lhs; cbv; try simp only [hbig, hor, hort]; cbv; try simp only [hbig, hor, hort]; cbv; try simp only [hbig, hor, hort]; cbv; try simp only [hbig, hor, hort]; cbv) ?_
    refine goA 60 ?_
    refine fn_ret rfl rfl (.val ?_)
    exact congrArg Value.bool hR.symm
  obtain ⟨rfl, rfl, rfl, rfl, rfl⟩ := hd
  cases B with
  | false =>
    have hR : R = false := hRf (fun h => hB2 rfl h.2.2.2.2.2.1)
    refine goB hX 0 (by conv => lhs; cbv; try simp only [hne, hor, hort, hnf]; cbv; try simp only [hne, hor, hort, hnf]; cbv; try simp only [hne, hor, hort, hnf]; cbv; try simp only [hne, hor, hort, hnf]; cbv) ?_
    refine goA 60 ?_
    refine on_gpcall (args := [AV.agg [int cCo, AV.isl 8 cC', int cv, int cf, int ck, int cxk, int cxn, str cxt], AV.agg [int dCo, AV.isl 8 dC', int dv, int df, int dk, int dxk, int dxn, str dxt]]) rfl rfl rfl rfl hcs (by simp [AV.closedL, closed_v, closed_agg, hcc, hcc2]) ?_
    refine goB hX 0 (by conv => lhs; cbv; try simp only [hne, hor, hort, hnf]; cbv; try simp only [hne, hor, hort, hnf]; cbv; try simp only [hne, hor, hort, hnf]; cbv; try simp only [hne, hor, hort, hnf]; cbv) ?_
    refine goA 60 ?_
    refine fn_ret rfl rfl (.val ?_)
    exact congrArg Value.bool hR.symm
  | true =>
  have hRe := hRe rfl rfl rfl rfl rfl (hB1 rfl)
  by_cases hl8 : a.length = a2.length
  rotate_left
  · have hR : R = false := hRf (fun h => hl8 h.2.2.2.2.2.2)
    have hln : iNe (lenA es) (lenA es2) = true := by simp only [ee]; simp; omega
    refine goB hX 0 (by conv => lhs; cbv; try simp only [hne, hor, hort, hnt, hln]; cbv; try simp only [hne, hor, hort, hnt, hln]; cbv; try simp only [hne, hor, hort, hnt, hln]; cbv; try simp only [hne, hor, hort, hnt, hln]; cbv) ?_
    refine goA 60 ?_
    refine on_gpcall (args := [AV.agg [int cCo, AV.isl 8 cC', int cv, int cf, int ck, int cxk, int cxn, str cxt], AV.agg [int dCo, AV.isl 8 dC', int dv, int df, int dk, int dxk, int dxn, str dxt]]) rfl rfl rfl rfl hcs (by simp [AV.closedL, closed_v, closed_agg, hcc, hcc2]) ?_
    refine goB hX 0 (by conv => lhs; cbv; try simp only [hne, hor, hort, hnt, hln]; cbv; try simp only [hne, hor, hort, hnt, hln]; cbv; try simp only [hne, hor, hort, hnt, hln]; cbv; try simp only [hne, hor, hort, hnt, hln]; cbv) ?_
    refine goA 60 ?_
    refine fn_ret rfl rfl (.val ?_)
    exact congrArg Value.bool hR.symm
  have hln : iNe (lenA es) (lenA es2) = false := by simp only [ee]; simp; omega
  refine goB hX 0 (by conv => lhs; cbv; try simp only [hne, hor, hort, hnt, hln]; cbv; try simp only [hne, hor, hort, hnt, hln]; cbv; try simp only [hne, hor, hort, hnt, hln]; cbv; try simp only [hne, hor, hort, hnt, hln]; cbv) ?_
  refine goA 60 ?_
  refine on_gpcall (args := [AV.agg [int cCo, AV.isl 8 cC', int cv, int cf, int ck, int cxk, int cxn, str cxt], AV.agg [int dCo, AV.isl 8 dC', int dv, int df, int dk, int dxk, int dxn, str dxt]]) rfl rfl rfl rfl hcs (by simp [AV.closedL, closed_v, closed_agg, hcc, hcc2]) ?_
  refine goB hX 0 (by conv => lhs; cbv; try simp only [hne, hor, hort, hnt, hln]; cbv; try simp only [hne, hor, hort, hnt, hln]; cbv; try simp only [hne, hor, hort, hnt, hln]; cbv; try simp only [hne, hor, hort, hnt, hln]; cbv) ?_
  refine goA 60 ?_
  refine on_loopP (ι := List Pat × List Pat × List Pat × List Pat × Int) (fun p => ([(5, int p.2.2.2.2), (2, .ptr 0 0), (3, .ptr 1 0)], [.cells [int o, .isl 14 es, int t, int v, int s, int n, int cCo, .isl 8 cC', int cv, int cf, int ck, int cxk, int cxn, str cxt], .cells [int o, .isl 14 es2, int t, int v, int s, int n, int dCo, .isl 8 dC', int dv, int df, int dk, int dxk, int dxn, str dxt]])) (fun p => a = p.1 ++ p.2.1 ∧ a2 = p.2.2.1 ++ p.2.2.2.1 ∧ p.2.2.2.2 = p.1.length ∧ p.1 = p.2.2.1) (fun p => p.2.1.length) ([], a, [], a2, 0) ⟨rfl, rfl, rfl, rfl⟩ ?_ ?_
  · exact (ent_sub [.to 0, .to 1] [some 0, some 1] ⟨⟨by simp, rfl⟩, ⟨by simp, rfl⟩, trivial⟩ ⟨osrc_cells (b := 0) rfl rfl rfl ⟨.refl _, .cl hcl, .refl _, .refl _, .refl _, .refl _, .refl _, .cl hcC, .refl _, .refl _, .refl _, .refl _, .refl _, .refl _, trivial⟩, osrc_cells (b := 1) rfl rfl rfl ⟨.refl _, .cl hcl2, .refl _, .refl _, .refl _, .refl _, .refl _, .cl hcD, .refl _, .refl _, .refl _, .refl _, .refl _, .refl _, trivial⟩, trivial⟩ ⟨.refl _, .refl _, .refl _, trivial⟩)
  rintro ⟨d, r, d2, r2, i⟩ ⟨g1, g2, gi, gd⟩
  dsimp only at g1 g2 gi gd ⊢
  subst gd
  cases r with
  | nil =>
    have L1 := len_split g1
    try simp only [List.length_cons, List.length_nil] at L1
    have hc : iLt i (lenA es) = false := lt_f e_iLt e_lenA (by omega)
    have L2 := len_split g2
    try simp only [List.length_cons, List.length_nil] at L2
    have hr2 : r2 = [] := List.length_eq_zero_iff.1 (by omega)
    have hR : R = true := by rw [hRe]; exact eqB_t (by rw [g1, g2, hr2])
    refine goB hX 0 (by conv => lhs; cbv; try simp only [hc]; cbv; try simp only [hc]; cbv; try simp only [hc]; cbv; try simp only [hc]; cbv) ?_
    refine goA 60 ?_
    refine loopP_exit ?_
    refine goA 60 ?_
    refine fn_ret rfl rfl (.val ?_)
    exact congrArg Value.bool hR.symm
  | cons q r =>
    have L1 := len_split g1
    try simp only [List.length_cons, List.length_nil] at L1
    have hc : iLt i (lenA es) = true := lt_t e_iLt e_lenA (by omega)
    have hat := el_at e_atA hes g1 gi
    have L2 := len_split g2
    try simp only [List.length_cons, List.length_nil] at L2
    cases r2 with
    | nil => exfalso; simp at L2; omega
    | cons q2 r2 =>
      have hat2 := el_at e_atA hes2 g2 gi
      have hq := hih q (by rw [g1]; simp) q2
      have hqc := Pat.closed q
      have hqc2 := Pat.closed q2
      obtain ⟨qO, qA, qT, qV, qS, qN, qCo, qCa, qCv, qCf, qCk, qXk, qXn, qXt, hx⟩ := Pat.form q
      obtain ⟨q2O, q2A, q2T, q2V, q2S, q2N, q2Co, q2Ca, q2Cv, q2Cf, q2Ck, q2Xk, q2Xn, q2Xt, hx2⟩ := Pat.form q2
      rw [hx, hx2] at hq
      rw [hx] at hat hqc
      rw [hx2] at hat2 hqc2
      have hi2 : iAdd .i64 i 1 = ((d ++ [q]).length : Int) := by rw [List.length_append]; exact inc_w e_iAdd gi (by omega)
      by_cases hqq : q = q2
      · rw [eqB_t hqq] at hq
        refine goB hX 0 (by conv => lhs; cbv; try simp only [hc, hat, hat2, hnt]; cbv; try simp only [hc, hat, hat2, hnt]; cbv; try simp only [hc, hat, hat2, hnt]; cbv; try simp only [hc, hat, hat2, hnt]; cbv) ?_
        refine goB hX 1 (by conv => lhs; cbv; try simp only [hc, hat, hat2, hnt]; cbv; try simp only [hc, hat, hat2, hnt]; cbv; try simp only [hc, hat, hat2, hnt]; cbv; try simp only [hc, hat, hat2, hnt]; cbv) ?_
        refine tr_drawB rfl (by conv => lhs; cbv) rfl ?_
        refine tgB hX (by conv => lhs; cbv; try simp only [hc, hat, hat2, hnt]; cbv; try simp only [hc, hat, hat2, hnt]; cbv; try simp only [hc, hat, hat2, hnt]; cbv; try simp only [hc, hat, hat2, hnt]; cbv) ?_
        refine tr_pcall (args := [AV.agg [int qO, AV.isl 14 qA, int qT, int qV, int qS, int qN, int qCo, AV.isl 8 qCa, int qCv, int qCf, int qCk, int qXk, int qXn, str qXt], AV.agg [int q2O, AV.isl 14 q2A, int q2T, int q2V, int q2S, int q2N, int q2Co, AV.isl 8 q2Ca, int q2Cv, int q2Cf, int q2Ck, int q2Xk, int q2Xn, str q2Xt]]) rfl rfl rfl hq (by simp [AV.closedL, closed_v, closed_agg, hqc, hqc2]) ?_
        refine tgA ?_
        refine tr_nil ⟨rfl, ?_, ?_⟩
        · simp only [LooksL, lookAll, List.append, List.cons_append, List.nil_append, List.append_nil]; and_intros <;> first | trivial | (intro hp; first | rfl | exact absurd (show false = true from hp) Bool.false_ne_true)
        refine goB hX 0 (by conv => lhs; cbv; try simp only [hc, hat, hat2, hnt]; cbv; try simp only [hc, hat, hat2, hnt]; cbv; try simp only [hc, hat, hat2, hnt]; cbv; try simp only [hc, hat, hat2, hnt]; cbv) ?_
        refine goA 60 ?_
        refine loopP_next (d ++ [q], r, d ++ [q2], r2, iAdd .i64 i 1) ⟨by simp [g1], by simp [g2], hi2, by simp [hqq]⟩ (by simp) (ent_sub [.to 0, .to 1] [some 0, some 1] ⟨⟨by simp, rfl⟩, ⟨by simp, rfl⟩, trivial⟩ ⟨osrc_cells (b := 0) rfl rfl rfl ⟨.refl _, .cl hcl, .refl _, .refl _, .refl _, .refl _, .refl _, .cl hcC, .refl _, .refl _, .refl _, .refl _, .refl _, .refl _, trivial⟩, osrc_cells (b := 1) rfl rfl rfl ⟨.refl _, .cl hcl2, .refl _, .refl _, .refl _, .refl _, .refl _, .cl hcD, .refl _, .refl _, .refl _, .refl _, .refl _, .refl _, trivial⟩, trivial⟩ ⟨.refl _, .refl _, .refl _, trivial⟩)
      · rw [eqB_f hqq] at hq
        have hR : R = false := by rw [hRe]; exact eqB_f (by rw [g1, g2]; simp [hqq])
        refine goB hX 0 (by conv => lhs; cbv; try simp only [hc, hat, hat2, hnf]; cbv; try simp only [hc, hat, hat2, hnf]; cbv; try simp only [hc, hat, hat2, hnf]; cbv; try simp only [hc, hat, hat2, hnf]; cbv) ?_
        refine goB hX 1 (by conv => lhs; cbv; try simp only [hc, hat, hat2, hnf]; cbv; try simp only [hc, hat, hat2, hnf]; cbv; try simp only [hc, hat, hat2, hnf]; cbv; try simp only [hc, hat, hat2, hnf]; cbv) ?_
        refine tr_drawB rfl (by conv => lhs; cbv) rfl ?_
        refine tgB hX (by conv => lhs; cbv; try simp only [hc, hat, hat2, hnf]; cbv; try simp only [hc, hat, hat2, hnf]; cbv; try simp only [hc, hat, hat2, hnf]; cbv; try simp only [hc, hat, hat2, hnf]; cbv) ?_
        refine tr_pcall (args := [AV.agg [int qO, AV.isl 14 qA, int qT, int qV, int qS, int qN, int qCo, AV.isl 8 qCa, int qCv, int qCf, int qCk, int qXk, int qXn, str qXt], AV.agg [int q2O, AV.isl 14 q2A, int q2T, int q2V, int q2S, int q2N, int q2Co, AV.isl 8 q2Ca, int q2Cv, int q2Cf, int q2Ck, int q2Xk, int q2Xn, str q2Xt]]) rfl rfl rfl hq (by simp [AV.closedL, closed_v, closed_agg, hqc, hqc2]) ?_
        refine tgA ?_
        refine tr_nil ⟨rfl, ?_, ?_⟩
        · simp only [LooksL, lookAll, List.append, List.cons_append, List.nil_append, List.append_nil]; and_intros <;> first | trivial | (intro hp; first | rfl | exact absurd (show false = true from hp) Bool.false_ne_true)
        refine goB hX 0 (by conv => lhs; cbv; try simp only [hc, hat, hat2, hnf]; cbv; try simp only [hc, hat, hat2, hnf]; cbv; try simp only [hc, hat, hat2, hnf]; cbv; try simp only [hc, hat, hat2, hnf]; cbv) ?_
        refine goA 60 ?_
        refine loopP_ret ?_
        refine goA 60 ?_
        refine fn_ret rfl rfl (.val ?_)
        exact congrArg Value.bool hR.symm
end Go.Am
end
section
set_option linter.unusedVariables false
set_option linter.unusedSimpArgs false
set_option maxRecDepth 20000
namespace Go.Am
open Go.Proofs
set_option maxHeartbeats 4000000 in
theorem P_example (a b : Int) : PCall EE 25 [int a, int b] (exampleP a b).enc := by
  have h1 := P_event 1 b
  have h2 := P_event 0 a
  have hR : (exampleP a b).enc = .agg [int 1, .isl 14 [(eventP 0 a).enc, .agg [int 6, .isl 14 [.agg [int 4, .isl 14 [(eventP 1 b).enc], int 0, int 0, int 0, int 0, int 0, .isl 8 [], int 0, int 0, int 0, int 0, int 0, str ⟨#[]⟩]], int 0, int 0, int 0, int 5, int 0, .isl 8 [], int 0, int 0, int 0, int 0, int 0, str ⟨#[]⟩]], int 0, int 0, int 0, int 0, int 0, .isl 8 [], int 0, int 0, int 0, int 0, int 0, str ⟨#[]⟩] := by
    simp only [exampleP, Ex0, Pat.enc_mk, mapE_eq, List.map_cons, List.map_nil, Vl0]
  rw [hR]
  have c1 := Pat.closed (eventP 1 b)
  have c2 := Pat.closed (eventP 0 a)
  generalize eventP 1 b = p1 at *
  generalize eventP 0 a = p2 at *
  obtain ⟨p1O, p1A, p1T, p1V, p1S, p1N, p1Co, p1Ca, p1Cv, p1Cf, p1Ck, p1Xk, p1Xn, p1Xt, hx1⟩ := Pat.form p1
  obtain ⟨p2O, p2A, p2T, p2V, p2S, p2N, p2Co, p2Ca, p2Cv, p2Cf, p2Ck, p2Xk, p2Xn, p2Xt, hx2⟩ := Pat.form p2
  rw [hx1] at h1 c1 ⊢
  rw [hx2] at h2 c2 ⊢
  clear hR hx1 hx2
  refine PCall.weak2 (v := .agg [int 1, .isl 14 [.agg [int p2O, .isl 14 p2A, int p2T, int p2V, int p2S, int p2N, int p2Co, .isl 8 p2Ca, int p2Cv, int p2Cf, int p2Ck, int p2Xk, int p2Xn, str p2Xt], .agg [int 6, .isl 14 [.agg [int 4, .isl 14 [.agg [int p1O, .isl 14 p1A, int p1T, int p1V, int p1S, int p1N, int p1Co, .isl 8 p1Ca, int p1Cv, int p1Cf, int p1Ck, int p1Xk, int p1Xn, str p1Xt]], int 0, int 0, int 0, int 0, int 0, .val (.slice none 0 0), int 0, int 0, int 0, int 0, int 0, str ⟨#[]⟩]], int 0, int 0, int 0, int 5, int 0, .val (.slice none 0 0), int 0, int 0, int 0, int 0, int 0, str ⟨#[]⟩]], int 0, int 0, int 0, int 0, int 0, .val (.slice none 0 0), int 0, int 0, int 0, int 0, int 0, str ⟨#[]⟩]) ?_ ?_
  rotate_left
  · exact .agg' ⟨.refl _, .isl' ⟨.refl _, ⟨.refl _, .isl' ⟨⟨.refl _, .refl _, .refl _, .refl _, .refl _, .refl _, .refl _, .nilI _, .refl _, .refl _, .refl _, .refl _, .refl _, .refl _, trivial⟩, trivial⟩, .refl _, .refl _, .refl _, .refl _, .refl _, .nilI _, .refl _, .refl _, .refl _, .refl _, .refl _, .refl _, trivial⟩, trivial⟩, .refl _, .refl _, .refl _, .refl _, .refl _, .nilI _, .refl _, .refl _, .refl _, .refl _, .refl _, .refl _, trivial⟩
  refine words fun iLt iLe iEq iNe iAdd iSub iMul iQuo iRem iShr iNeg iCvt iMax iMin bNot bEq bNe bAnd bOr sEq sNe sLen sCat sCut sAt lenA lenN iOf natOf atA atN cutA partA dropA catA setA repA putA idxN addN subN minN lenCut rowA hX e_iLt e_iLe e_iEq e_iNe e_iAdd e_iSub e_iMul e_iQuo e_iRem e_iShr e_iNeg e_iCvt e_iMax e_iMin e_bNot e_bEq e_bNe e_bAnd e_bOr e_sEq e_sNe e_sLen e_sCat e_sCut e_sAt e_lenA e_lenN e_iOf e_natOf e_atA e_atN e_cutA e_partA e_dropA e_catA e_setA e_repA e_putA e_idxN e_addN e_subN e_minN e_lenCut e_rowA ee => ?_
  refine fn_body (fn := Tryd.f25) (n := 17) (ac := Trydc25) (rvs := [.cell 4 14 true]) rfl (by decide) Trydp25 rfl rfl rfl ?_
  refine goA 60 ?_
  refine on_pcall (args := [int 1, int b]) rfl rfl rfl h1 rfl ?_
  refine goA 60 ?_
  refine tr_drawB rfl (by conv => lhs; cbv) rfl ?_
  refine tgA ?_
  refine tr_pcall (args := [int 0, int a]) rfl rfl rfl h2 rfl ?_
  refine tgA ?_
  refine tr_nil ⟨rfl, ?_, ?_⟩
  · simp only [LooksL, lookAll, List.append, List.cons_append, List.nil_append, List.append_nil]; and_intros <;> first | trivial | (intro hp; first | rfl | exact absurd (show false = true from hp) Bool.false_ne_true)
  refine goA 60 ?_
  refine fn_ret rfl rfl ?_
  have hp1 : ∀ σ, AV.sub σ (.agg [int p1O, .isl 14 p1A, int p1T, int p1V, int p1S, int p1N, int p1Co, .isl 8 p1Ca, int p1Cv, int p1Cf, int p1Ck, int p1Xk, int p1Xn, str p1Xt]) = .agg [int p1O, .isl 14 p1A, int p1T, int p1V, int p1S, int p1N, int p1Co, .isl 8 p1Ca, int p1Cv, int p1Cf, int p1Ck, int p1Xk, int p1Xn, str p1Xt] := fun σ => sub_closed _ _ _ (Nat.le_refl _) c1
  have hp2 : ∀ σ, AV.sub σ (.agg [int p2O, .isl 14 p2A, int p2T, int p2V, int p2S, int p2N, int p2Co, .isl 8 p2Ca, int p2Cv, int p2Cf, int p2Ck, int p2Xk, int p2Xn, str p2Xt]) = .agg [int p2O, .isl 14 p2A, int p2T, int p2V, int p2S, int p2N, int p2Co, .isl 8 p2Ca, int p2Cv, int p2Cf, int p2Ck, int p2Xk, int p2Xn, str p2Xt] := fun σ => sub_closed _ _ _ (Nat.le_refl _) c2
  exact ⟨[.gone, .isl 14 [.agg [int p1O, .isl 14 p1A, int p1T, int p1V, int p1S, int p1N, int p1Co, .isl 8 p1Ca, int p1Cv, int p1Cf, int p1Ck, int p1Xk, int p1Xn, str p1Xt]], .gone, .isl 14 [.agg [int 4, .isl 14 [.agg [int p1O, .isl 14 p1A, int p1T, int p1V, int p1S, int p1N, int p1Co, .isl 8 p1Ca, int p1Cv, int p1Cf, int p1Ck, int p1Xk, int p1Xn, str p1Xt]], int 0, int 0, int 0, int 0, int 0, .val (.slice none 0 0), int 0, int 0, int 0, int 0, int 0, str ⟨#[]⟩]], .isl 14 [.agg [int p2O, .isl 14 p2A, int p2T, int p2V, int p2S, int p2N, int p2Co, .isl 8 p2Ca, int p2Cv, int p2Cf, int p2Ck, int p2Xk, int p2Xn, str p2Xt], .agg [int 6, .isl 14 [.agg [int 4, .isl 14 [.agg [int p1O, .isl 14 p1A, int p1T, int p1V, int p1S, int p1N, int p1Co, .isl 8 p1Ca, int p1Cv, int p1Cf, int p1Ck, int p1Xk, int p1Xn, str p1Xt]], int 0, int 0, int 0, int 0, int 0, .val (.slice none 0 0), int 0, int 0, int 0, int 0, int 0, str ⟨#[]⟩]], int 0, int 0, int 0, int 5, int 0, .val (.slice none 0 0), int 0, int 0, int 0, int 0, int 0, str ⟨#[]⟩]]], ⟨trivial, ⟨_, rfl, by simp only [AV.subL, hp1]⟩, trivial, ⟨_, rfl, by rfl⟩, ⟨_, rfl, by simp only [AV.subL, hp2]; rfl⟩, trivial⟩, .of rfl⟩
end Go.Am
end
section
set_option linter.unusedVariables false
set_option linter.unusedSimpArgs false
set_option maxRecDepth 20000
namespace Go.Am
open Go.Proofs
def lacksP : Pat := .mk 5 [eventP 0 1] 1 0 0 0 yesE
theorem ex_nodes (a b : Int) : (exampleP a b).nodes = [exampleP a b, eventP 0 a, .mk 6 [.mk 4 [eventP 1 b] 0 0 0 0 Ex0] 0 0 0 5 Ex0, .mk 4 [eventP 1 b] 0 0 0 0 Ex0, eventP 1 b] := by
  simp [exampleP, eventP, Pat.nodes, Pat.nodesL]
theorem yes_sm : yesE.Sm := by simp [Ex.Sm, yesE, Ex.cnt, Ex.cntL]
theorem ex0_sm : Ex0.Sm := by simp [Ex.Sm, Ex0, Ex.cnt, Ex.cntL]
theorem ex_sm (a b : Int) : (exampleP a b).Sm := by
  refine (Pat.Sm_iff _).2 ⟨by rw [ex_nodes]; simp, ?_⟩
  rw [ex_nodes]
  intro q hq
  simp at hq
  rcases hq with rfl | rfl | rfl | rfl | rfl <;> simp [exampleP, eventP, Pat.cond, yes_sm, ex0_sm]
theorem lk_nodes : lacksP.nodes = [lacksP, eventP 0 1] := by simp [lacksP, eventP, Pat.nodes, Pat.nodesL]
theorem lk_sm : lacksP.Sm := by
  refine (Pat.Sm_iff _).2 ⟨by rw [lk_nodes]; simp, ?_⟩
  rw [lk_nodes]
  intro q hq
  simp at hq
  rcases hq with rfl | rfl <;> simp [lacksP, eventP, Pat.cond, yes_sm]
theorem ex_cnt (a b : Int) : (exampleP a b).cnt = 5 := by rw [← Pat.nodes_len, ex_nodes]; rfl
theorem ex_dep (a b : Int) : (exampleP a b).dep = 4 := by simp [exampleP, eventP, Pat.dep, Pat.depL]
theorem lk_cnt : lacksP.cnt = 2 := by rw [← Pat.nodes_len, lk_nodes]; rfl
theorem lk_dep : lacksP.dep = 2 := by simp [lacksP, eventP, Pat.dep, Pat.depL]
theorem yes_chk : yesE.chk = 0 := by
  have h1 : yesE.cnt = 1 := by simp [yesE, Ex.cnt, Ex.cntL]
  have h2 : yesE.dep = 1 := by simp [yesE, Ex.dep, Ex.depL]
  have h3 : yesE.nodes = [yesE] := by simp [yesE, Ex.nodes, Ex.nodesL]
  rw [Ex.chk, h1, h2, h3]
  have hz : (⟨#[]⟩ : ByteArray).size = 0 := rfl
  simp [hz, firstE, Ex.nodeE, yesE, Ex.op, Ex.args, Ex.var, Ex.fld, Ex.kind, Ex.val, Ex.consE, Ex.formB, arityB, arityN, usesV, usesF, Vl.chk, Vl.sizeE]
theorem ev_node (k v : Int) (hk : 0 ≤ k ∧ k ≤ 15) (hv : 0 ≤ v ∧ v ≤ 15) : (eventP k v).nodeE = 0 := by
  have := yes_chk
  simp [Pat.nodeE, eventP, Pat.op, Pat.args, Pat.ty, Pat.var, Pat.scope, Pat.span, Pat.cond, leastF, mostF, typedF, condF, scopeF, spanF, this]
  omega
theorem ex_node (a b : Int) (ha : 0 ≤ a ∧ a ≤ 15) (hb : 0 ≤ b ∧ b ≤ 15) : ∀ q ∈ (exampleP a b).nodes, q.nodeE = 0 := by
  rw [ex_nodes]
  intro q hq
  simp at hq
  rcases hq with rfl | rfl | rfl | rfl | rfl
  · simp [Pat.nodeE, exampleP, Pat.op, Pat.args, Pat.ty, Pat.var, Pat.scope, Pat.span, Pat.cond, leastF, mostF, typedF, condF, scopeF, spanF]
  · exact ev_node _ _ (by omega) ha
  · simp [Pat.nodeE, exampleP, Pat.op, Pat.args, Pat.ty, Pat.var, Pat.scope, Pat.span, Pat.cond, leastF, mostF, typedF, condF, scopeF, spanF]
  · simp [Pat.nodeE, exampleP, Pat.op, Pat.args, Pat.ty, Pat.var, Pat.scope, Pat.span, Pat.cond, leastF, mostF, typedF, condF, scopeF, spanF]
  · exact ev_node _ _ (by omega) hb
theorem ex_chkR (a b : Int) (ha : 0 ≤ a ∧ a ≤ 15) (hb : 0 ≤ b ∧ b ≤ 15) : (exampleP a b).chkR = 0 := by
  rw [Pat.chkR, ex_cnt, ex_dep, if_neg (by decide), if_neg (by decide)]
  exact firstE_ok (ex_node a b ha hb)
theorem ex_whole (a b : Int) (ha : 0 ≤ a ∧ a ≤ 15) (hb : 0 ≤ b ∧ b ≤ 15) : (exampleP a b).wholeE = 0 := by
  rw [Pat.wholeE, ex_chkR a b ha hb, ex_nodes]
  simp [firstE, exampleP, eventP, Pat.op]
theorem ex_chk (a b : Int) (ha : 0 ≤ a ∧ a ≤ 15) (hb : 0 ≤ b ∧ b ≤ 15) : (exampleP a b).chk = if a = 0 ∧ b = 1 then 0 else 14 := by
  rw [Pat.chk, ex_whole a b ha hb, ex_nodes]
  simp [cfold, cstep, exampleP, eventP, Pat.op, Pat.var, Pat.scope, typedF, scopeF]
theorem ex_path : (exampleP 0 1).path 1 = [exampleP 0 1, .mk 6 [.mk 4 [eventP 1 1] 0 0 0 0 Ex0] 0 0 0 5 Ex0, .mk 4 [eventP 1 1] 0 0 0 0 Ex0, eventP 1 1] := by
  simp [exampleP, eventP, Pat.path, Pat.pathL, consP]
theorem ex_around : (exampleP 0 1).aroundE 1 = 0 := by
  rw [Pat.aroundE, ex_chkR 0 1 (by omega) (by omega), ex_path]; simp
theorem ex_lims : (exampleP 0 1).lims 1 = [⟨0, 5⟩] := by
  rw [Pat.lims, ex_around, ex_path]
  simp [limsF, exampleP, eventP, Pat.op, Pat.scope, Pat.span]
theorem ex_scs : (exampleP 0 1).scs 1 = [] := by
  rw [Pat.scs, ex_around, ex_path]
  simp [scsF, exampleP, eventP, Pat.op]
theorem lk_chk : lacksP.chk = 0 := by
  have h0 : ∀ q ∈ lacksP.nodes, q.nodeE = 0 := by
    have := yes_chk
    rw [lk_nodes]
    intro q hq
    simp at hq
    rcases hq with rfl | rfl
    · simp [Pat.nodeE, lacksP, Pat.op, Pat.args, Pat.ty, Pat.var, Pat.scope, Pat.span, Pat.cond, leastF, mostF, typedF, condF, scopeF, spanF, this]
    · exact ev_node _ _ (by omega) (by omega)
  have h1 : lacksP.chkR = 0 := by
    rw [Pat.chkR, lk_cnt, lk_dep, if_neg (by decide), if_neg (by decide)]
    exact firstE_ok h0
  have h2 : lacksP.wholeE = 0 := by
    rw [Pat.wholeE, h1, lk_nodes]
    simp [firstE, lacksP, eventP, Pat.op]
  rw [Pat.chk, h2, lk_nodes]
  simp [cfold, cstep, lacksP, eventP, Pat.op, Pat.var, Pat.scope, typedF, scopeF]
theorem lk_bound : lacksP.bound = [1] := by
  rw [Pat.bound, lk_nodes]
  have : bndF [lacksP, eventP 0 1] = [1] := by simp [bndF, lacksP, eventP, Pat.op, Pat.var]
  rw [this]
  have : sortI [1] = [1] := by simp [sortI]
  rw [this]
  rfl
theorem ex_olds (a b : Int) : oldsF (exampleP a b).nodes = [a, b] := by
  rw [ex_nodes]; simp [oldsF, exampleP, eventP, Pat.op, Pat.var, typedF]
theorem yes_vars : yesE.vars = [] := by rfl
theorem ex_numE : (exampleP 3 7).numE = 0 := by
  rw [Pat.numE, ex_whole 3 7 (by omega) (by omega), ex_olds, ex_nodes]
  simp [firstE, lacksF, exampleP, eventP, Pat.op, Pat.cond, condF, yes_vars]
theorem yes_ren (to : List Int) : yesE.rename to = yesE := by
  have h3 : yesE.nodes = [yesE] := by simp [yesE, Ex.nodes, Ex.nodesL]
  have : yesE.renErr to = 0 := by
    rw [Ex.renErr, yes_chk, h3]
    simp [firstE, renE, yesE, Ex.op, usesV]
  rw [Ex.rename, this, if_pos rfl]
  simp [yesE, Ex.reb, Ex.rebL, renG, Ex.op, usesV]
theorem ex_numX : (exampleP 3 7).numX = exampleP 0 1 := by
  have h3 : (toF [3, 7]).getD 3 0 = 0 := by rfl
  have h7 : (toF [3, 7]).getD 7 0 = 1 := by rfl
  rw [Pat.numX, ex_numE, if_pos rfl, ex_olds]
  generalize toF [3, 7] = to at *
  simp only [exampleP, eventP, Pat.ren, Pat.renL]
  simp [typedF, condF, yes_ren, Pat.numb, Pat.numbL, scopeF] at h3 h7 ⊢
  simp [h3, h7, Pat.nsc, Pat.nscL, scopeF]
theorem ex_numO : (exampleP 3 7).numO = [3, 7] := by
  rw [Pat.numO, ex_numE, if_pos rfl, ex_olds]
set_option maxHeartbeats 8000000 in
theorem P_awake : PCall EE 8 [] (bool true) := by
  have q1 := P_example 0 1
  have q2 := P_example 3 7
  have q3 := P_pattern_Size (exampleP 0 1) (ex_sm 0 1)
  have q4 := P_Around (exampleP 0 1) 1 (ex_sm 0 1)
  have q5 := P_Number (exampleP 3 7) (ex_sm 3 7)
  have q6 := P_SameLimits [⟨0, 5⟩] [⟨0, 5⟩] (by decide)
  have q7 := P_pattern_Check (exampleP 0 1) (ex_sm 0 1)
  have q8 := P_pattern_Check (exampleP 3 7) (ex_sm 3 7)
  have q9 := P_ref09_Same (exampleP 0 1) (exampleP 0 1) (ex_sm 0 1)
  have qA := P_SameInts [3, 7] [3, 7] (by decide)
  have qB := P_event 0 1
  have qC := P_yes
  have qD := P_pattern_Check lacksP lk_sm
  have qE := P_Bound lacksP lk_sm
  have qF := P_SameInts [1] [1] (by decide)
  rw [ex_cnt, ex_dep] at q3
  rw [ex_lims, ex_scs, ex_around] at q4
  rw [ex_numX, ex_numO, ex_numE] at q5
  rw [eqB_t rfl] at q6 q9 qA qF
  rw [ex_chk _ _ (by omega) (by omega)] at q7 q8
  rw [lk_chk] at qD
  rw [lk_bound] at qE
  simp only [mapE_eq, List.map_cons, List.map_nil, Lim.enc] at q4 q5 q6 qA qE qF
  have kc1 := Pat.closed (exampleP 0 1)
  have kc2 := Pat.closed (exampleP 3 7)
  have kc3 := Pat.closed (eventP 0 1)
  have kc4 := Ex.closed yesE
  have kc5 := Pat.closed lacksP
  have hl : lacksP.enc = .agg ([int 5, .isl 14 [(eventP 0 1).enc], int 1, int 0, int 0, int 0] ++ (match yesE.enc with | .agg l => l | _ => [])) := by
    rw [lacksP, yesE, Pat.enc_mk, Ex.enc_mk, mapE_eq]; rfl
  generalize exampleP 0 1 = pa at *
  generalize exampleP 3 7 = pb at *
  generalize lacksP = pl at *
  generalize eventP 0 1 = pe at *
  generalize yesE = py at *
  obtain ⟨paO, paA, paT, paV, paS, paN, paCo, paCa, paCv, paCf, paCk, paXk, paXn, paXt, hxa⟩ := Pat.form pa
  obtain ⟨pbO, pbA, pbT, pbV, pbS, pbN, pbCo, pbCa, pbCv, pbCf, pbCk, pbXk, pbXn, pbXt, hxb⟩ := Pat.form pb
  obtain ⟨peO, peA, peT, peV, peS, peN, peCo, peCa, peCv, peCf, peCk, peXk, peXn, peXt, hxe⟩ := Pat.form pe
  obtain ⟨pyO, pyA, pyV, pyF, pyK, pyXk, pyXn, pyXt, hxy⟩ := Ex.form py
  rw [hxe, hxy] at hl
  dsimp only [List.cons_append, List.nil_append] at hl
  rw [hxa] at q1 q3 q4 q5 q7 q9 kc1
  rw [hxb] at q2 q5 q8 kc2
  rw [hxe] at qB kc3
  rw [hxy] at qC kc4
  rw [hl] at qD qE kc5
  refine words fun iLt iLe iEq iNe iAdd iSub iMul iQuo iRem iShr iNeg iCvt iMax iMin bNot bEq bNe bAnd bOr sEq sNe sLen sCat sCut sAt lenA lenN iOf natOf atA atN cutA partA dropA catA setA repA putA idxN addN subN minN lenCut rowA hX e_iLt e_iLe e_iEq e_iNe e_iAdd e_iSub e_iMul e_iQuo e_iRem e_iShr e_iNeg e_iCvt e_iMax e_iMin e_bNot e_bEq e_bNe e_bAnd e_bOr e_sEq e_sNe e_sLen e_sCat e_sCut e_sAt e_lenA e_lenN e_iOf e_natOf e_atA e_atN e_cutA e_partA e_dropA e_catA e_setA e_repA e_putA e_idxN e_addN e_subN e_minN e_lenCut e_rowA ee => ?_
  refine fn_body (fn := Tryd.f8) (n := 92) (ac := Trydc8) (rvs := [.t 0]) rfl (by decide) Trydp8 rfl rfl rfl ?_
  refine goA 60 ?_
  refine on_pcall (args := [int 0, int 1]) rfl rfl rfl q1 rfl ?_
  refine on_pcall (args := [int 3, int 7]) rfl rfl rfl q2 rfl ?_
  refine goA 60 ?_
  refine on_pcall (args := [AV.agg [int paO, AV.isl 14 paA, int paT, int paV, int paS, int paN, int paCo, AV.isl 8 paCa, int paCv, int paCf, int paCk, int paXk, int paXn, str paXt]]) rfl rfl rfl q3 (by simp [AV.closedL, closed_v, closed_agg, closed_fn, closed_iptr, kc1, kc2, kc3, kc4, kc5]) ?_
  refine goA 60 ?_
  refine on_pcall (args := [AV.agg [int paO, AV.isl 14 paA, int paT, int paV, int paS, int paN, int paCo, AV.isl 8 paCa, int paCv, int paCf, int paCk, int paXk, int paXn, str paXt], int 1]) rfl rfl rfl q4 (by simp [AV.closedL, closed_v, closed_agg, closed_fn, closed_iptr, kc1, kc2, kc3, kc4, kc5]) ?_
  refine goA 60 ?_
  refine on_pcall (args := [AV.agg [int pbO, AV.isl 14 pbA, int pbT, int pbV, int pbS, int pbN, int pbCo, AV.isl 8 pbCa, int pbCv, int pbCf, int pbCk, int pbXk, int pbXn, str pbXt]]) rfl rfl rfl q5 (by simp [AV.closedL, closed_v, closed_agg, closed_fn, closed_iptr, kc1, kc2, kc3, kc4, kc5]) ?_
  refine goA 0 ?_
  refine on_guard rfl rfl (fun c1 => ?_) (fun c1 => ?_)
  ·
    simp [ee] at c1
  ·
    simp [ee] at c1
    refine goA 60 ?_
    refine on_lend rfl rfl q6 rfl ⟨[.gone, .gone, .gone, .isl 2 ([AV.agg [AV.val (Value.int IntKind.i64 0), AV.val (Value.int IntKind.i64 5)]])], ⟨trivial, trivial, trivial, ⟨_, rfl, (subL_closed _ (by rfl)).symm⟩, trivial⟩, ⟨.refl _, .refl _, trivial⟩⟩ ?_
    refine goA 0 ?_
    refine on_guard rfl rfl (fun c2 => ?_) (fun c2 => ?_)
    ·
      simp [ee] at c2
    ·
      simp [ee] at c2
      refine goA 60 ?_
      refine on_gpcall (args := [AV.agg [int paO, AV.isl 14 paA, int paT, int paV, int paS, int paN, int paCo, AV.isl 8 paCa, int paCv, int paCf, int paCk, int paXk, int paXn, str paXt]]) rfl rfl rfl rfl q7 (by simp [AV.closedL, closed_v, closed_agg, closed_fn, closed_iptr, kc1, kc2, kc3, kc4, kc5]) ?_
      refine goA 0 ?_
      refine on_guard rfl rfl (fun c3 => ?_) (fun c3 => ?_)
      ·
        simp [ee] at c3
      ·
        simp [ee] at c3
        refine goA 60 ?_
        refine on_gpcall (args := [AV.agg [int pbO, AV.isl 14 pbA, int pbT, int pbV, int pbS, int pbN, int pbCo, AV.isl 8 pbCa, int pbCv, int pbCf, int pbCk, int pbXk, int pbXn, str pbXt]]) rfl rfl rfl rfl q8 (by simp [AV.closedL, closed_v, closed_agg, closed_fn, closed_iptr, kc1, kc2, kc3, kc4, kc5]) ?_
        refine goA 0 ?_
        refine on_guard rfl rfl (fun c4 => ?_) (fun c4 => ?_)
        ·
          simp [ee] at c4
        ·
          simp [ee] at c4
          refine goA 60 ?_
          refine on_gpcall (args := [AV.agg [int paO, AV.isl 14 paA, int paT, int paV, int paS, int paN, int paCo, AV.isl 8 paCa, int paCv, int paCf, int paCk, int paXk, int paXn, str paXt], AV.agg [int paO, AV.isl 14 paA, int paT, int paV, int paS, int paN, int paCo, AV.isl 8 paCa, int paCv, int paCf, int paCk, int paXk, int paXn, str paXt]]) rfl rfl rfl rfl q9 (by simp [AV.closedL, closed_v, closed_agg, closed_fn, closed_iptr, kc1, kc2, kc3, kc4, kc5]) ?_
          refine goA 0 ?_
          refine on_guard rfl rfl (fun c5 => ?_) (fun c5 => ?_)
          ·
            simp [ee] at c5
          ·
            simp [ee] at c5
            refine goA 60 ?_
            refine on_lend rfl rfl qA rfl ⟨[.gone, .gone, .gone, .gone, .isl 1 ([AV.val (Value.int IntKind.i64 3), AV.val (Value.int IntKind.i64 7)])], ⟨trivial, trivial, trivial, trivial, ⟨_, rfl, (subL_closed _ (by rfl)).symm⟩, trivial⟩, ⟨.refl _, .refl _, trivial⟩⟩ ?_
            refine goA 0 ?_
            refine on_cond rfl (fun c6 => ?_) (fun c6 => ?_)
            ·
              simp [ee] at c6
            ·
              simp [ee] at c6
              refine goA 60 ?_
              refine on_pcall (args := [int 0, int 1]) rfl rfl rfl qB rfl ?_
              refine goA 60 ?_
              refine on_pcall (args := []) rfl rfl rfl qC rfl ?_
              refine goA 60 ?_
              have kc6 : AV.closedL [.agg [int peO, .isl 14 peA, int peT, int peV, int peS, int peN, int peCo, .isl 8 peCa, int peCv, int peCf, int peCk, int peXk, int peXn, str peXt]] = true := closed1 kc3
              have kc7 : (AV.isl 8 pyA).closed = true := by have := kc4; simp [AV.closed, AV.closedL] at this ⊢; exact this
              refine on_entO (F' := [(83, .agg [int 5, .isl 14 [.agg [int peO, .isl 14 peA, int peT, int peV, int peS, int peN, int peCo, .isl 8 peCa, int peCv, int peCf, int peCk, int peXk, int peXn, str peXt]], int 1, int 0, int 0, int 0, int pyO, .isl 8 pyA, int pyV, int pyF, int pyK, int pyXk, int pyXn, str pyXt]), (11, .ptr 0 0)]) (H' := [.cells [int 5, .isl 14 [.agg [int peO, .isl 14 peA, int peT, int peV, int peS, int peN, int peCo, .isl 8 peCa, int peCv, int peCf, int peCk, int peXk, int peXn, str peXt]], int 1, int 0, int 0, int 0, int pyO, .isl 8 pyA, int pyV, int pyF, int pyK, int pyXk, int pyXn, str pyXt]]) ?_ ?_
              · exact (ent_sub [.gone, .gone, .gone, .gone, .gone, .isl 14 ([AV.agg [AV.val (Value.int IntKind.i64 peO), AV.isl 14 peA, AV.val (Value.int IntKind.i64 peT), AV.val (Value.int IntKind.i64 peV), AV.val (Value.int IntKind.i64 peS), AV.val (Value.int IntKind.i64 peN), AV.val (Value.int IntKind.i64 peCo), AV.isl 8 peCa, AV.val (Value.int IntKind.i64 peCv), AV.val (Value.int IntKind.i64 peCf), AV.val (Value.int IntKind.i64 peCk), AV.val (Value.int IntKind.i64 peXk), AV.val (Value.int IntKind.i64 peXn), AV.val (Value.string peXt)]]), .to 0] [some 6] ⟨trivial, trivial, trivial, trivial, trivial, ⟨_, rfl, (subL_closed _ kc6).symm⟩, ⟨by simp, rfl⟩, trivial⟩ ⟨osrc_cells (b := 6) rfl rfl rfl ⟨.refl _, .refl _, .refl _, .refl _, .refl _, .refl _, .refl _, .cl kc7, .refl _, .refl _, .refl _, .refl _, .refl _, .refl _, trivial⟩, trivial⟩ ⟨.agg' ⟨.refl _, .refl _, .refl _, .refl _, .refl _, .refl _, .refl _, .cl kc7, .refl _, .refl _, .refl _, .refl _, .refl _, .refl _, trivial⟩, .refl _, trivial⟩)
              refine on_pcall (args := [AV.agg [int 5, AV.isl 14 [AV.agg [int peO, AV.isl 14 peA, int peT, int peV, int peS, int peN, int peCo, AV.isl 8 peCa, int peCv, int peCf, int peCk, int peXk, int peXn, str peXt]], int 1, int 0, int 0, int 0, int pyO, AV.isl 8 pyA, int pyV, int pyF, int pyK, int pyXk, int pyXn, str pyXt]]) rfl rfl rfl qD (by simp [AV.closedL, closed_v, closed_agg, closed_fn, closed_iptr, kc1, kc2, kc3, kc4, kc5, kc6]) ?_
              refine goA 0 ?_
              refine on_guard rfl rfl (fun c1 => ?_) (fun c1 => ?_)
              ·
                simp [ee] at c1
                refine goA 60 ?_
                refine on_gpcall (args := [AV.agg [int 5, AV.isl 14 [AV.agg [int peO, AV.isl 14 peA, int peT, int peV, int peS, int peN, int peCo, AV.isl 8 peCa, int peCv, int peCf, int peCk, int peXk, int peXn, str peXt]], int 1, int 0, int 0, int 0, int pyO, AV.isl 8 pyA, int pyV, int pyF, int pyK, int pyXk, int pyXn, str pyXt]]) rfl rfl rfl rfl qE (by simp [AV.closedL, closed_v, closed_agg, closed_fn, closed_iptr, kc1, kc2, kc3, kc4, kc5, kc6]) ?_
                refine goA 60 ?_
                refine on_lend rfl rfl qF rfl ⟨[.gone, .isl 1 ([AV.val (Value.int IntKind.i64 1)])], ⟨trivial, ⟨_, rfl, (subL_closed _ (by rfl)).symm⟩, trivial⟩, ⟨.refl _, .refl _, trivial⟩⟩ ?_
                refine goA 60 ?_
                refine fn_ret rfl rfl (.val ?_)
                rfl
              ·
                simp [ee] at c1
end Go.Am
end
section
set_option linter.unusedVariables false
set_option linter.unusedSimpArgs false
set_option maxRecDepth 20000
namespace Go.Am
open Go.Proofs
theorem comp_split (zs : List Int) : ∀ m, m ≤ zs.length → zs.Pairwise (· ≤ ·) →
    (Lib.compactUpTo zs.toArray m).Pairwise (· < ·) ∧ (∀ n, n ∈ Lib.compactUpTo zs.toArray m ↔ n ∈ zs.take m) := by
  intro m
  induction m with
  | zero => intro _ _; simp [Lib.compactUpTo]
  | succ m ih =>
    intro hm hp
    obtain ⟨i1, i2⟩ := ih (by omega) hp
    have hz : zs.toArray[m]! = zs[m] := by simp [getElem!_pos, show m < zs.length by omega]
    have htk : zs.take (m + 1) = zs.take m ++ [zs[m]] := by rw [List.take_succ_eq_append_getElem (by omega)]
    rw [Lib.compactUpTo_succ, hz]
    have hle : ∀ n ∈ zs.take m, n ≤ zs[m] := by
      intro n hn
      obtain ⟨j, hj, rfl⟩ := List.mem_iff_getElem.1 hn
      have hj' : j < m := by simp at hj; omega
      rw [List.getElem_take]
      exact (List.pairwise_iff_getElem.1 hp) j m (by omega) (by omega) hj'
    by_cases hk : Lib.keeps zs.toArray m = true
    · rw [if_pos hk]
      constructor
      · rw [List.pairwise_append]
        refine ⟨i1, by simp, fun x hx y hy => ?_⟩
        simp at hy; subst hy
        have hx' := (i2 x).1 hx
        have h1 := hle x hx'
        by_cases hm0 : m = 0
        · subst hm0; simp at hx'
        · have hne : zs[m] ≠ zs[m - 1] := by
            intro he
            have : Lib.keeps zs.toArray m = false := Lib.keeps_neg (by omega) (by
              rw [hz]; simp [getElem!_pos, show m - 1 < zs.length by omega]; exact he)
            rw [hk] at this; cases this
          have h2 : x ≤ zs[m - 1] := by
            obtain ⟨j, hj, rfl⟩ := List.mem_iff_getElem.1 hx'
            have hj' : j < m := by simp at hj; omega
            rw [List.getElem_take]
            by_cases hjm : j = m - 1
            · subst hjm; exact Int.le_refl _
            · exact (List.pairwise_iff_getElem.1 hp) j (m - 1) (by omega) (by omega) (by omega)
          have h3 := (List.pairwise_iff_getElem.1 hp) (m - 1) m (by omega) (by omega) (by omega)
          omega
      · intro n
        rw [htk, List.mem_append, List.mem_append, i2]
    · rw [if_neg hk, List.append_nil]
      refine ⟨i1, fun n => ?_⟩
      rw [htk, List.mem_append, i2, List.mem_singleton]
      refine ⟨.inl, ?_⟩
      rintro (h | rfl)
      · exact h
      · have hm0 : m ≠ 0 := by rintro rfl; exact hk (Lib.keeps_lt_one _ 0 (by omega))
        have he : zs[m] = zs[m - 1] := by
          by_cases he : zs[m] = zs[m - 1]
          · exact he
          · exact absurd (Lib.keeps_pos (d := zs.toArray) (m := m) (by rw [hz]; simp [getElem!_pos, show m - 1 < zs.length by omega]; exact he)) hk
        rw [he]
        exact List.mem_take_iff_getElem.2 ⟨m - 1, by omega, rfl⟩
theorem comp_ok (zs : List Int) (hp : zs.Pairwise (· ≤ ·)) : (Lib.compact zs).Pairwise (· < ·) ∧ ∀ n, n ∈ Lib.compact zs ↔ n ∈ zs := by
  have := comp_split zs zs.length (Nat.le_refl _) hp
  rw [List.take_length] at this
  exact this
theorem sort_sorted (l : List Int) : (sortI l).Pairwise (· ≤ ·) := by
  have := List.pairwise_mergeSort (le := fun x y : Int => decide (x ≤ y)) (fun a b c h1 h2 => by simp at *; omega) (fun a b => by simp; omega) l
  exact this.imp (by intro a b h; simpa using h)
theorem sort_mem (l : List Int) (n : Int) : n ∈ sortI l ↔ n ∈ l := by simp [sortI, List.mem_mergeSort]
theorem Pat.bound_mem {p : Pat} (n : Int) : n ∈ p.bound ↔ n ∈ bndF p.nodes := by
  rw [Pat.bound, (comp_ok _ (sort_sorted _)).2, sort_mem]
theorem Pat.bound_nodup (p : Pat) : p.bound.Pairwise (· < ·) := (comp_ok _ (sort_sorted _)).1
theorem chkR_zero {p : Pat} : p.chkR = 0 ↔ p.cnt ≤ 64 ∧ p.dep ≤ 12 ∧ ∀ q ∈ p.nodes, q.nodeE = 0 := by
  unfold Pat.chkR
  by_cases h1 : 64 < p.cnt
  · rw [if_pos h1]; simp; omega
  rw [if_neg h1]
  by_cases h2 : 12 < p.dep
  · rw [if_pos h2]; simp; omega
  rw [if_neg h2]
  exact ⟨fun h => ⟨by omega, by omega, firstE_zero h⟩, fun h => firstE_ok h.2.2⟩
end Go.Am
end
section
set_option linter.unusedVariables false
set_option linter.unusedSimpArgs false
set_option maxRecDepth 20000
namespace Go.Am
open Go.Proofs
structure Turn (to back : List Int) : Prop where
  lt : to.length = 16
  lb : back.length = 16
  rng : ∀ v : Int, 0 ≤ v → v < 16 → 0 ≤ to.getD v.toNat 0 ∧ to.getD v.toNat 0 < 16
  inv : ∀ v : Int, 0 ≤ v → v < 16 → back.getD (to.getD v.toNat 0).toNat 0 = v
theorem Ex.reb_nodesL {to : List Int} {l : List Ex} (h : ∀ e ∈ l, (e.reb (renG to)).nodes = e.nodes.map (Ex.reb (renG to))) : Ex.nodesL (Ex.rebL (renG to) l) = (Ex.nodesL l).map (Ex.reb (renG to)) := by
  induction l with
  | nil => simp [Ex.rebL, Ex.nodesL]
  | cons e r ih => rw [Ex.rebL, Ex.nodesL, Ex.nodesL, h e (by simp), ih fun e he => h e (by simp [he]), List.map_append]
theorem Ex.reb_mk (to : List Int) (o a v f k x) : (Ex.mk o a v f k x).reb (renG to) = .mk o (Ex.rebL (renG to) a) (if usesV o then to.getD v.toNat 0 else v) f k x := by
  rw [Ex.reb, renG]
  simp only [Ex.op, Ex.args, Ex.var, Ex.fld, Ex.kind, Ex.val]
  split <;> simp_all
theorem Ex.reb_nodes (to : List Int) : ∀ e : Ex, (e.reb (renG to)).nodes = e.nodes.map (Ex.reb (renG to)) := Ex.ind fun o a v f k x h => by
  rw [Ex.reb_mk, Ex.nodes, Ex.nodes, List.map_cons, Ex.reb_nodesL h, Ex.reb_mk]
theorem Ex.reb_depL {to : List Int} {l : List Ex} (h : ∀ e ∈ l, (e.reb (renG to)).dep = e.dep) : ∀ d, Ex.depL d (Ex.rebL (renG to) l) = Ex.depL d l := by
  induction l with
  | nil => intro d; simp [Ex.rebL, Ex.depL]
  | cons e r ih => intro d; rw [Ex.rebL, Ex.depL, Ex.depL, h e (by simp), ih fun e he => h e (by simp [he])]
theorem Ex.reb_dep (to : List Int) : ∀ e : Ex, (e.reb (renG to)).dep = e.dep := Ex.ind fun o a v f k x h => by
  rw [Ex.reb_mk, Ex.dep, Ex.dep, Ex.reb_depL h]
theorem Ex.chk_zero {e : Ex} : e.chk = 0 ↔ e.cnt ≤ 64 ∧ e.dep ≤ 12 ∧ ∀ q ∈ e.nodes, q.nodeE = 0 := by
  unfold Ex.chk
  by_cases h1 : 64 < e.cnt
  · rw [if_pos h1]; simp; omega
  rw [if_neg h1]
  by_cases h2 : 12 < e.dep
  · rw [if_pos h2]; simp; omega
  rw [if_neg h2]
  exact ⟨fun h => ⟨by omega, by omega, firstE_zero h⟩, fun h => firstE_ok h.2.2⟩
theorem Ex.nodeE_iff (e : Ex) : e.nodeE = 0 ↔ arityB e.op = true ∧ (e.args.length : Int) = arityN e.op ∧ (usesV e.op = true → 0 ≤ e.var ∧ e.var < 16) ∧ (usesF e.op = true → 0 ≤ e.fld ∧ e.fld < 8) ∧ ¬ (e.op = 4 ∧ (e.kind < 1 ∨ 5 < e.kind)) ∧ ((e.op = 4 ∨ e.op = 0) → e.consE = 0) ∧ e.formB := by
  unfold Ex.nodeE
  by_cases h1 : arityB e.op = false
  · rw [if_pos h1]; simp [h1]
  rw [if_neg h1]
  have h1 : arityB e.op = true := by simpa using h1
  by_cases h2 : (e.args.length : Int) ≠ arityN e.op
  · rw [if_pos h2]; exact ⟨fun h => (by cases h), fun h => absurd h.2.1 h2⟩
  rw [if_neg h2]
  have h2 : (e.args.length : Int) = arityN e.op := Classical.byContradiction fun h => h2 h
  by_cases h3 : (usesV e.op = true ∧ (e.var < 0 ∨ 16 ≤ e.var)) ∨ (usesF e.op = true ∧ (e.fld < 0 ∨ 8 ≤ e.fld))
  · rw [if_pos h3]
    refine ⟨fun h => (by cases h), fun h => ?_⟩
    rcases h3 with ⟨a, b⟩ | ⟨a, b⟩
    · have := h.2.2.1 a; omega
    · have := h.2.2.2.1 a; omega
  rw [if_neg h3]
  have h3 : (usesV e.op = true → 0 ≤ e.var ∧ e.var < 16) ∧ (usesF e.op = true → 0 ≤ e.fld ∧ e.fld < 8) :=
    ⟨fun a => ⟨Int.not_lt.1 fun b => h3 (.inl ⟨a, .inl b⟩), Int.not_le.1 fun b => h3 (.inl ⟨a, .inr b⟩)⟩, fun a => ⟨Int.not_lt.1 fun b => h3 (.inr ⟨a, .inl b⟩), Int.not_le.1 fun b => h3 (.inr ⟨a, .inr b⟩)⟩⟩
  by_cases h4 : e.op = 4 ∧ (e.kind < 1 ∨ 5 < e.kind)
  · rw [if_pos h4]; exact ⟨fun h => (by cases h), fun h => absurd h4 h.2.2.2.2.1⟩
  rw [if_neg h4]
  by_cases h5 : (e.op = 4 ∨ e.op = 0) ∧ e.consE ≠ 0
  · rw [if_pos h5]; exact ⟨fun h => absurd h h5.2, fun h => absurd (h.2.2.2.2.2.1 h5.1) h5.2⟩
  rw [if_neg h5]
  have h5 : (e.op = 4 ∨ e.op = 0) → e.consE = 0 := fun a => Classical.byContradiction fun b => h5 ⟨a, b⟩
  by_cases h6 : e.formB
  · rw [if_pos h6]; exact ⟨fun _ => ⟨h1, h2, h3.1, h3.2, h4, h5, h6⟩, fun _ => rfl⟩
  · rw [if_neg h6]; exact ⟨fun h => (by cases h), fun h => absurd h.2.2.2.2.2.2 h6⟩
theorem Ex.nodeE_reb {to back : List Int} (T : Turn to back) {q : Ex} (h : q.nodeE = 0) : (q.reb (renG to)).nodeE = 0 := by
  rw [Ex.nodeE_iff] at h ⊢
  obtain ⟨o, a, v, f, k, x⟩ := q
  rw [Ex.reb_mk]
  have hl := Ex.rebL_len (renG to) a
  obtain ⟨h1, h2, h3, h4, h5, h6, h7⟩ := h
  simp only [Ex.op, Ex.var, Ex.args, Ex.fld, Ex.kind, Ex.val, Ex.formB] at h1 h2 h3 h4 h5 h6 h7
  refine ⟨h1, by simp only [Ex.op, Ex.args]; rw [hl]; exact h2, fun hu => ?_, h4, h5, h6, ?_⟩
  · simp only [Ex.op, Ex.var] at hu ⊢
    rw [if_pos hu]
    exact T.rng v (h3 hu).1 (h3 hu).2
  · simp only [Ex.op, Ex.var, Ex.args, Ex.fld, Ex.kind, Ex.val, Ex.formB]
    refine ⟨?_, h7.2⟩
    cases hu : usesV o with
    | true => exact .inl rfl
    | false =>
      rw [if_neg (by decide)]
      rcases h7.1 with h | h
      · rw [hu] at h; cases h
      · exact .inr h
theorem Ex.reb_back {to back : List Int} (T : Turn to back) : ∀ e : Ex, (∀ q ∈ e.nodes, usesV q.op = true → 0 ≤ q.var ∧ q.var < 16) → (e.reb (renG to)).reb (renG back) = e := Ex.ind fun o a v f k x ih h => by
  have h1 := h _ (by rw [Ex.nodes]; exact List.mem_cons_self)
  have h2 : ∀ q ∈ Ex.nodesL a, usesV q.op = true → 0 ≤ q.var ∧ q.var < 16 := fun q hq => h q (by rw [Ex.nodes]; exact List.mem_cons_of_mem _ hq)
  have h3 : Ex.rebL (renG back) (Ex.rebL (renG to) a) = a := by
    clear h h1
    induction a with
    | nil => rfl
    | cons e r ihr =>
      rw [Ex.nodesL] at h2
      rw [Ex.rebL, Ex.rebL, ih e (by simp) (fun q hq => h2 q (by simp [hq])), ihr (fun e he => ih e (by simp [he])) (fun q hq => h2 q (by simp [hq]))]
  rw [Ex.reb_mk, Ex.reb_mk, h3]
  simp only [Ex.op, Ex.var] at h1
  cases hu : usesV o with
  | false => simp
  | true => simp only [if_true]; rw [T.inv v (h1 hu).1 (h1 hu).2]
theorem Ex.turn {to back : List Int} (T : Turn to back) {e : Ex} (h : e.chk = 0) : e.renErr to = 0 ∧ (e.rename to).chk = 0 ∧ e.rename to = e.reb (renG to) := by
  obtain ⟨c1, c2, c3⟩ := Ex.chk_zero.1 h
  have h1 : e.renErr to = 0 := by
    rw [Ex.renErr, h, if_neg (by simp)]
    refine firstE_ok fun q hq => ?_
    have hv := Ex.nodeE_var (c3 q hq)
    unfold renE
    cases hu : usesV q.op with
    | false => simp
    | true =>
      have := T.rng _ (hv hu).1 (hv hu).2
      have := hv hu
      rw [if_neg (by simp), if_neg (by rw [T.lt]; omega), if_neg (by omega)]
  have h2 : e.rename to = e.reb (renG to) := by rw [Ex.rename, h1, if_pos rfl]
  refine ⟨h1, ?_, h2⟩
  rw [h2]
  refine Ex.chk_zero.2 ⟨by rw [Ex.reb_cnt (renG_cnt to)]; exact c1, by rw [Ex.reb_dep]; exact c2, fun q hq => ?_⟩
  rw [Ex.reb_nodes] at hq
  obtain ⟨q0, hq0, rfl⟩ := List.mem_map.1 hq
  exact Ex.nodeE_reb T (c3 q0 hq0)
theorem Ex.turn_back {to back : List Int} (T : Turn to back) (T2 : Turn back to) {e : Ex} (h : e.chk = 0) : (e.rename to).rename back = e := by
  obtain ⟨h1, h2, h3⟩ := Ex.turn T h
  rw [(Ex.turn T2 h2).2.2, h3]
  exact Ex.reb_back T e fun q hq => Ex.nodeE_var ((Ex.chk_zero.1 h).2.2 q hq)
theorem Pat.ren_depL {to : List Int} {l : List Pat} (h : ∀ e ∈ l, (e.ren to).dep = e.dep) : ∀ d, Pat.depL d (Pat.renL to l) = Pat.depL d l := by
  induction l with
  | nil => intro d; simp [Pat.renL, Pat.depL]
  | cons e r ih => intro d; rw [Pat.renL, Pat.depL, Pat.depL, h e (by simp), ih fun e he => h e (by simp [he])]
theorem Pat.ren_dep (to : List Int) : ∀ p : Pat, (p.ren to).dep = p.dep := Pat.ind fun o a t v s n c h => by
  rw [Pat.ren, Pat.dep, Pat.dep, Pat.ren_depL h]
theorem nodeE_cond {q : Pat} (h : q.nodeE = 0) : condF q.op = true → q.cond.chk = 0 := by
  intro hc
  unfold Pat.nodeE at h
  by_cases h1 : q.op < 0 ∨ 11 ≤ q.op
  · rw [if_pos h1] at h; cases h
  rw [if_neg h1] at h
  by_cases h2 : (q.args.length : Int) < leastF q.op ∨ mostF q.op < q.args.length
  · rw [if_pos h2] at h; cases h
  rw [if_neg h2] at h
  by_cases h3 : (typedF q.op = true ∧ (q.ty < 0 ∨ 15 < q.ty ∨ q.var < 0 ∨ 15 < q.var)) ∨ (scopeF q.op = true ∧ (q.scope < 0 ∨ 63 < q.scope)) ∨ (spanF q.op = true ∧ (q.span < 0 ∨ 1099511627776 < q.span))
  · rw [if_pos h3] at h; cases h
  rw [if_neg h3] at h
  by_cases h4 : condF q.op = true ∧ q.cond.chk ≠ 0
  · rw [if_pos h4] at h; exact absurd h h4.2
  · exact Classical.byContradiction fun hh => h4 ⟨hc, hh⟩
theorem nodeE_iff (p : Pat) : p.nodeE = 0 ↔ (0 ≤ p.op ∧ p.op < 11) ∧ (leastF p.op ≤ p.args.length ∧ (p.args.length : Int) ≤ mostF p.op) ∧ (typedF p.op = true → 0 ≤ p.ty ∧ p.ty ≤ 15 ∧ 0 ≤ p.var ∧ p.var ≤ 15) ∧ (scopeF p.op = true → 0 ≤ p.scope ∧ p.scope ≤ 63) ∧ (spanF p.op = true → 0 ≤ p.span ∧ p.span ≤ 1099511627776) ∧ (condF p.op = true → p.cond.chk = 0) ∧
    (condF p.op = false → p.cond = Ex0) ∧ (typedF p.op = false → p.ty = 0 ∧ p.var = 0) ∧ (scopeF p.op = false → p.scope = 0) ∧ (spanF p.op = false → p.span = 0) := by
  unfold Pat.nodeE
  by_cases h1 : p.op < 0 ∨ 11 ≤ p.op
  · rw [if_pos h1]; exact ⟨fun h => (by cases h), fun h => by have := h.1; omega⟩
  rw [if_neg h1]
  by_cases h2 : (p.args.length : Int) < leastF p.op ∨ mostF p.op < p.args.length
  · rw [if_pos h2]; exact ⟨fun h => (by cases h), fun h => by have := h.2.1; omega⟩
  rw [if_neg h2]
  by_cases h3 : (typedF p.op = true ∧ (p.ty < 0 ∨ 15 < p.ty ∨ p.var < 0 ∨ 15 < p.var)) ∨ (scopeF p.op = true ∧ (p.scope < 0 ∨ 63 < p.scope)) ∨ (spanF p.op = true ∧ (p.span < 0 ∨ 1099511627776 < p.span))
  · rw [if_pos h3]
    refine ⟨fun h => (by cases h), fun h => ?_⟩
    obtain ⟨-, -, a1, a2, a3, -⟩ := h
    rcases h3 with ⟨a, b⟩ | ⟨a, b⟩ | ⟨a, b⟩
    · have := a1 a; omega
    · have := a2 a; omega
    · have := a3 a; omega
  rw [if_neg h3]
  have g1 : typedF p.op = true → 0 ≤ p.ty ∧ p.ty ≤ 15 ∧ 0 ≤ p.var ∧ p.var ≤ 15 := fun a => by
    have : ¬ (p.ty < 0 ∨ 15 < p.ty ∨ p.var < 0 ∨ 15 < p.var) := fun b => h3 (.inl ⟨a, b⟩)
    omega
  have g2 : scopeF p.op = true → 0 ≤ p.scope ∧ p.scope ≤ 63 := fun a => by
    have : ¬ (p.scope < 0 ∨ 63 < p.scope) := fun b => h3 (.inr (.inl ⟨a, b⟩))
    omega
  have g3 : spanF p.op = true → 0 ≤ p.span ∧ p.span ≤ 1099511627776 := fun a => by
    have : ¬ (p.span < 0 ∨ 1099511627776 < p.span) := fun b => h3 (.inr (.inr ⟨a, b⟩))
    omega
  by_cases h4 : condF p.op = true ∧ p.cond.chk ≠ 0
  · rw [if_pos h4]; exact ⟨fun h => absurd h h4.2, fun h => absurd (h.2.2.2.2.2.1 h4.1) h4.2⟩
  rw [if_neg h4]
  have g4 : condF p.op = true → p.cond.chk = 0 := fun a => Classical.byContradiction fun b => h4 ⟨a, b⟩
  by_cases h5 : (condF p.op = false ∧ p.cond ≠ Ex0) ∨ (typedF p.op = false ∧ (p.ty ≠ 0 ∨ p.var ≠ 0)) ∨ (scopeF p.op = false ∧ p.scope ≠ 0) ∨ (spanF p.op = false ∧ p.span ≠ 0)
  · rw [if_pos h5]
    refine ⟨fun h => (by cases h), fun h => ?_⟩
    obtain ⟨-, -, -, -, -, -, a1, a2, a3, a4⟩ := h
    rcases h5 with ⟨a, b⟩ | ⟨a, b⟩ | ⟨a, b⟩ | ⟨a, b⟩
    · exact absurd (a1 a) b
    · have := a2 a; omega
    · exact absurd (a3 a) b
    · exact absurd (a4 a) b
  · rw [if_neg h5]
    refine ⟨fun _ => ⟨by omega, by omega, g1, g2, g3, g4, fun a => Classical.byContradiction fun b => h5 (.inl ⟨a, b⟩), fun a => ?_, fun a => Classical.byContradiction fun b => h5 (.inr (.inr (.inl ⟨a, b⟩))), fun a => Classical.byContradiction fun b => h5 (.inr (.inr (.inr ⟨a, b⟩)))⟩, fun _ => rfl⟩
    have : ¬ (p.ty ≠ 0 ∨ p.var ≠ 0) := fun b => h5 (.inr (.inl ⟨a, b⟩))
    omega
theorem nodeE_ren {to back : List Int} (T : Turn to back) {q : Pat} (h : q.nodeE = 0) : (q.ren to).nodeE = 0 := by
  rw [nodeE_iff] at h ⊢
  obtain ⟨o, a, t, v, s, n, c⟩ := q
  obtain ⟨h1, h2, h3, h4, h5, h6, h7, h8, h9, hA⟩ := h
  rw [Pat.ren]
  simp only [Pat.op, Pat.var, Pat.args, Pat.ty, Pat.scope, Pat.span, Pat.cond, Pat.renL_len] at *
  refine ⟨h1, h2, fun hh => ?_, h4, h5, fun hh => ?_, fun hh => ?_, fun hh => ?_, h9, hA⟩
  · rw [if_pos hh]
    have := h3 hh
    have := T.rng v (by omega) (by omega)
    omega
  · rw [if_pos hh]; exact (Ex.turn T (h6 hh)).2.1
  · rw [if_neg (by rw [hh]; decide)]; exact h7 hh
  · rw [if_neg (by rw [hh]; decide)]; exact h8 hh
theorem Pat.ren_back {to back : List Int} (T : Turn to back) (T2 : Turn back to) : ∀ p : Pat, (∀ q ∈ p.nodes, q.nodeE = 0) → (p.ren to).ren back = p := Pat.ind fun o a t v s n c ih h => by
  have h1 := h _ (by rw [Pat.nodes]; exact List.mem_cons_self)
  have h2 : ∀ q ∈ Pat.nodesL a, q.nodeE = 0 := fun q hq => h q (by rw [Pat.nodes]; exact List.mem_cons_of_mem _ hq)
  have h3 : Pat.renL back (Pat.renL to a) = a := by
    clear h h1
    induction a with
    | nil => simp [Pat.renL]
    | cons e r ihr =>
      rw [Pat.nodesL] at h2
      rw [Pat.renL, Pat.renL, ih e (by simp) (fun q hq => h2 q (by simp [hq])), ihr (fun e he => ih e (by simp [he])) (fun q hq => h2 q (by simp [hq]))]
  have hv := nodeE_var h1
  have hc := nodeE_cond h1
  simp only [Pat.op, Pat.var, Pat.cond] at hv hc
  rw [Pat.ren, Pat.ren, h3]
  have ev : (if typedF o = true then back.getD (if typedF o = true then to.getD v.toNat 0 else v).toNat 0 else if typedF o = true then to.getD v.toNat 0 else v) = v := by
    cases ht : typedF o with
    | false => simp
    | true => simp only [if_true]; exact T.inv v (hv ht).1 (by have := hv ht; omega)
  have ec : (if condF o = true then (if condF o = true then c.rename to else c).rename back else if condF o = true then c.rename to else c) = c := by
    cases ht : condF o with
    | false => simp
    | true => simp only [if_true]; exact Ex.turn_back T T2 (hc ht)
  rw [ev, ec]
theorem turn_p {to back : List Int} (T : Turn to back) {p : Pat} (h : p.chkR = 0) : p.renErr to = 0 ∧ p.rename to = p.ren to ∧ (p.ren to).chkR = 0 := by
  obtain ⟨c1, c2, c3⟩ := chkR_zero.1 h
  have h1 : p.renErr to = 0 := by
    rw [Pat.renErr, h, if_neg (by simp)]
    refine firstE_ok fun q hq => ?_
    have hv := nodeE_var (c3 q hq)
    have hc := nodeE_cond (c3 q hq)
    unfold nrenE
    rw [if_neg (fun hh => by have := hv hh.1; have := hh.2; rw [T.lt] at this; omega), if_neg (fun hh => by have h1 := hv hh.1; have := T.rng _ h1.1 (by omega); have := hh.2; omega)]
    split
    · exact (Ex.turn T (hc (by assumption))).1
    · rfl
  refine ⟨h1, by rw [Pat.rename, h1, if_pos rfl], ?_⟩
  refine chkR_zero.2 ⟨?_, by rw [Pat.ren_dep]; exact c2, fun q hq => ?_⟩
  · rw [← Pat.nodes_len, Pat.ren_nodes, List.length_map, Pat.nodes_len]; exact c1
  · rw [Pat.ren_nodes] at hq
    obtain ⟨q0, hq0, rfl⟩ := List.mem_map.1 hq
    exact nodeE_ren T (c3 q0 hq0)
theorem Pat.ren_var (to : List Int) (p : Pat) : (p.ren to).var = if typedF p.op then to.getD p.var.toNat 0 else p.var := by obtain ⟨o, a, t, v, s, n, c⟩ := p; rw [Pat.ren]; rfl
theorem bnd_ren (to : List Int) (p : Pat) : bndF (p.ren to).nodes = (bndF p.nodes).map fun v => to.getD v.toNat 0 := by
  rw [Pat.ren_nodes]
  unfold bndF
  rw [List.filter_map, List.map_map, List.map_map]
  have : (fun q : Pat => decide (q.op = 0)) ∘ Pat.ren to = fun q => decide (q.op = 0) := by funext q; simp [Pat.ren_op]
  rw [this]
  refine List.map_congr_left fun q hq => ?_
  have := (List.mem_filter.1 hq).2
  simp at this
  simp [Pat.ren_var, this, typedF]
theorem turn_bnd {to back : List Int} (T : Turn to back) {p : Pat} (h : p.chkR = 0) : (p.ren to).bound.length = p.bound.length ∧ ∀ v ∈ p.bound, (0 ≤ v ∧ v < 16) ∧ to.getD v.toNat 0 ∈ (p.ren to).bound := by
  obtain ⟨c1, c2, c3⟩ := chkR_zero.1 h
  have hr : ∀ v ∈ p.bound, 0 ≤ v ∧ v < 16 := fun v hv => by
    rw [Pat.bound_mem] at hv
    unfold bndF at hv
    obtain ⟨q, hq, rfl⟩ := List.mem_map.1 hv
    have h2 := List.mem_filter.1 hq
    have := nodeE_var (c3 q h2.1) (by have := h2.2; simp at this; simp [this, typedF])
    omega
  have hm : ∀ w, w ∈ (p.ren to).bound ↔ w ∈ p.bound.map fun v => to.getD v.toNat 0 := fun w => by
    rw [Pat.bound_mem, bnd_ren, List.mem_map, List.mem_map]
    constructor
    · rintro ⟨v, hv, e⟩; exact ⟨v, (Pat.bound_mem v).2 hv, e⟩
    · rintro ⟨v, hv, e⟩; exact ⟨v, (Pat.bound_mem v).1 hv, e⟩
  have hn1 : (p.ren to).bound.Nodup := (Pat.bound_nodup _).imp fun hab => by omega
  have hn2 : (p.bound.map fun v => to.getD v.toNat 0).Nodup := by
    refine List.pairwise_map.2 ?_
    refine List.Pairwise.imp_of_mem (fun {a b} ha hb hab e => ?_) (Pat.bound_nodup p)
    have ra := hr a ha
    have rb := hr b hb
    have := T.inv a ra.1 ra.2
    rw [e, T.inv b rb.1 rb.2] at this
    omega
  refine ⟨?_, fun v hv => ⟨hr v hv, (hm _).2 (List.mem_map.2 ⟨v, hv, rfl⟩)⟩⟩
  have := ((List.perm_ext_iff_of_nodup hn1 hn2).2 hm).length_eq
  rw [this, List.length_map]
def rotT (by_ : Int) (k : Nat) : List Int := (List.range k).map fun (j : Nat) => ((j : Int) + by_) % 16
def rotB (by_ : Int) (k : Nat) : List Int := (List.range k).map fun (j : Nat) => ((j : Int) + 16 - by_ % 16) % 16
theorem rotT_succ (b : Int) (k : Nat) : rotT b (k + 1) = rotT b k ++ [((k : Int) + b) % 16] := by simp [rotT, List.range_succ]
theorem rotB_succ (b : Int) (k : Nat) : rotB b (k + 1) = rotB b k ++ [((k : Int) + 16 - b % 16) % 16] := by simp [rotB, List.range_succ]
theorem rotT_get (b : Int) {v : Int} (h0 : 0 ≤ v) (h1 : v < 16) : (rotT b 16).getD v.toNat 0 = (v + b) % 16 := by
  rw [rotT, List.getD_eq_getElem?_getD, List.getElem?_map, List.getElem?_range (by omega)]
  simp [Int.toNat_of_nonneg h0]
theorem rotB_get (b : Int) {v : Int} (h0 : 0 ≤ v) (h1 : v < 16) : (rotB b 16).getD v.toNat 0 = (v + 16 - b % 16) % 16 := by
  rw [rotB, List.getD_eq_getElem?_getD, List.getElem?_map, List.getElem?_range (by omega)]
  simp [Int.toNat_of_nonneg h0]
theorem rot_turn (b : Int) : Turn (rotT b 16) (rotB b 16) :=
  ⟨by simp [rotT], by simp [rotB], fun v h0 h1 => by rw [rotT_get b h0 h1]; omega, fun v h0 h1 => by rw [rotT_get b h0 h1, rotB_get b (by omega) (by omega)]; omega⟩
theorem rot_turn2 (b : Int) : Turn (rotB b 16) (rotT b 16) :=
  ⟨by simp [rotB], by simp [rotT], fun v h0 h1 => by rw [rotB_get b h0 h1]; omega, fun v h0 h1 => by rw [rotB_get b h0 h1, rotT_get b (by omega) (by omega)]; omega⟩
end Go.Am
end
section
set_option linter.unusedVariables false
set_option linter.unusedSimpArgs false
set_option maxRecDepth 20000
namespace Go.Am
open Go.Proofs
mutual
def Ex.tot (lim : Nat) : Ex → Nat
  | .mk _ a _ _ _ _ => Ex.totL lim 1 a
def Ex.totL (lim : Nat) : Nat → List Ex → Nat
  | n, [] => n
  | n, e :: r => if n ≤ lim then Ex.totL lim (n + e.tot lim) r else n
end
theorem Ex.totL_le {lim : Nat} {l : List Ex} (h : ∀ e ∈ l, e.tot lim ≤ e.cnt) : ∀ n, Ex.totL lim n l ≤ n + Ex.cntL l := by
  induction l with
  | nil => intro n; simp [Ex.totL]
  | cons e r ih =>
    intro n
    have h1 := h e (by simp)
    have h2 := ih (fun e he => h e (by simp [he])) (n + e.tot lim)
    simp only [Ex.totL, Ex.cntL]; split <;> omega
theorem Ex.tot_le (lim : Nat) : ∀ e : Ex, e.tot lim ≤ e.cnt := Ex.ind fun o a v f k x h => by
  have := Ex.totL_le h 1
  simp only [Ex.tot, Ex.cnt]; omega
theorem Ex.totL_eq {lim : Nat} {l : List Ex} (h : ∀ e ∈ l, e.cnt ≤ lim → e.tot lim = e.cnt) : ∀ n, n + Ex.cntL l ≤ lim → Ex.totL lim n l = n + Ex.cntL l := by
  induction l with
  | nil => intro n _; simp [Ex.totL, Ex.cntL]
  | cons e r ih =>
    intro n hn
    simp only [Ex.cntL] at hn ⊢
    have h1 := h e (by simp) (by omega)
    rw [Ex.totL, if_pos (by omega), ih (fun e he => h e (by simp [he])) _ (by omega)]; omega
theorem Ex.tot_eq {lim : Nat} : ∀ e : Ex, e.cnt ≤ lim → e.tot lim = e.cnt := Ex.ind fun o a v f k x h hl => by
  simp only [Ex.tot, Ex.cnt] at hl ⊢
  exact Ex.totL_eq h 1 hl
theorem Ex.totL_gt {lim : Nat} {l : List Ex} (h : ∀ e ∈ l, lim < e.cnt → lim < e.tot lim) : ∀ n, lim < n + Ex.cntL l → lim < Ex.totL lim n l := by
  induction l with
  | nil => intro n hn; simpa [Ex.totL, Ex.cntL] using hn
  | cons e r ih =>
    intro n hn
    simp only [Ex.cntL] at hn
    rw [Ex.totL]
    split
    · refine ih (fun e he => h e (by simp [he])) _ ?_
      by_cases hc : e.cnt ≤ lim
      · rw [Ex.tot_eq e hc]; omega
      · have := h e (by simp) (by omega); omega
    · omega
theorem Ex.tot_gt {lim : Nat} : ∀ e : Ex, lim < e.cnt → lim < e.tot lim := Ex.ind fun o a v f k x h hl => by
  simp only [Ex.tot, Ex.cnt] at hl ⊢
  exact Ex.totL_gt h 1 hl
theorem Ex.tot_iff (e : Ex) (lim : Nat) : e.tot lim ≤ lim ↔ e.cnt ≤ lim := by
  by_cases h : e.cnt ≤ lim
  · rw [Ex.tot_eq e h]
  · have := Ex.tot_gt (lim := lim) e (by omega); omega
theorem P_ref08_Count (lim : Nat) (hlim : lim ≤ 1099511627776) : ∀ p : Ex, p.Sm → PCall EE 41 [p.enc, int lim] (int (p.tot lim)) := by
  generalize hli : (lim : Int) = li
  refine Ex.ind ?_
  intro o a v f k x ih hs
  obtain ⟨xk, xn, xt⟩ := x
  have hlen := hs.len
  have hih : ∀ q ∈ a, PCall EE 41 [q.enc, int li] (int (q.tot lim)) := fun q hq => ih q hq (hs.arg hq)
  have hcl := Ex.closedI a
  have hcnt : Ex.cntL a ≤ 1048576 := by unfold Ex.Sm at hs; simp only [Ex.cnt] at hs; omega
  have hde := fun q : Ex => Ex.tot_le lim q
  simp only [Ex.tot]
  obtain ⟨R, hR⟩ : ∃ R, R = Ex.totL lim 1 a := ⟨_, rfl⟩
  rw [← hR, Ex.enc_mk]
  refine words fun iLt iLe iEq iNe iAdd iSub iMul iQuo iRem iShr iNeg iCvt iMax iMin bNot bEq bNe bAnd bOr sEq sNe sLen sCat sCut sAt lenA lenN iOf natOf atA atN cutA partA dropA catA setA repA putA idxN addN subN minN lenCut rowA hX e_iLt e_iLe e_iEq e_iNe e_iAdd e_iSub e_iMul e_iQuo e_iRem e_iShr e_iNeg e_iCvt e_iMax e_iMin e_bNot e_bEq e_bNe e_bAnd e_bOr e_sEq e_sNe e_sLen e_sCat e_sCut e_sAt e_lenA e_lenN e_iOf e_natOf e_atA e_atN e_cutA e_partA e_dropA e_catA e_setA e_repA e_putA e_idxN e_addN e_subN e_minN e_lenCut e_rowA ee => ?_
  generalize hes : mapE Ex.enc a = es at *
  have hel : es.length = a.length := by rw [← hes, mapE_len]
  refine fn_body (fn := Tryd.f41) (n := 29) (ac := Trydc41) (rvs := [.t 4]) rfl (by decide) Trydp41 rfl rfl rfl ?_
  refine goA 60 ?_
  refine on_loopP (ι := List Ex × List Ex × Int × Int) (fun p => ([(5, int p.2.2.2), (6, int p.2.2.1), (1, int li), (2, .ptr 0 0)], [.cells [int o, .isl 8 es, int v, int f, int k, int xk, int xn, str xt]])) (fun p => a = p.1 ++ p.2.1 ∧ p.2.2.1 = p.1.length ∧ p.2.2.2 ≤ 1 + Ex.cntL p.1 ∧ 0 ≤ p.2.2.2 ∧ R = Ex.totL lim p.2.2.2.toNat p.2.1) (fun p => p.2.1.length) ([], a, 0, 1) ⟨rfl, rfl, by simp [Ex.cntL], by simp, hR⟩ ?_ ?_
  · exact (ent_sub [.to 0] [some 0] ⟨⟨by simp, rfl⟩, trivial⟩ ⟨osrc_cells (b := 0) rfl rfl rfl ⟨.refl _, .cl hcl, .refl _, .refl _, .refl _, .refl _, .refl _, .refl _, trivial⟩, trivial⟩ ⟨.refl _, .refl _, .refl _, .refl _, trivial⟩)
  rintro ⟨d, r, i, nn⟩ ⟨g1, gi, gn, gp, gt⟩
  dsimp only at g1 gi gn gp gt ⊢
  have hnt : (nn.toNat : Int) = nn := Int.toNat_of_nonneg gp
  cases r with
  | nil =>
    have L1 := len_split g1
    try simp only [List.length_cons, List.length_nil] at L1
    have hc : iLt i (lenA es) = false := lt_f e_iLt e_lenA (by omega)
    rw [Ex.totL] at gt
    have hv : nn = (R : Int) := by omega
    have hb : ∀ b, bAnd false b = false := by simp [ee]
    refine goB hX 0 (by conv => lhs; cbv; try simp only [hc, hb]; cbv; try simp only [hc, hb]; cbv; try simp only [hc, hb]; cbv; try simp only [hc, hb]; cbv) ?_
    refine goA 60 ?_
    refine loopP_exit ?_
    refine goA 60 ?_
    refine fn_ret rfl rfl (.val ?_)
    exact congrArg (Value.int .i64) hv
  | cons q r =>
    have L1 := len_split g1
    try simp only [List.length_cons, List.length_nil] at L1
    have hc : iLt i (lenA es) = true := lt_t e_iLt e_lenA (by omega)
    have hat := el_at e_atA hes g1 gi
    have hq := hih q (by rw [g1]; simp)
    have hqc := Ex.closed q
    have hqd := hde q
    rw [g1, Ex.cntL_append, Ex.cntL] at hcnt
    obtain ⟨qO, qA, qV, qF, qK, qXk, qXn, qXt, hx⟩ := Ex.form q
    rw [hx] at hq hat hqc
    have hb : ∀ b, bAnd true b = b := by simp [ee]
    rw [Ex.totL] at gt
    by_cases hle : nn ≤ li
    · have h2 : iLe nn li = true := by simp [ee]; omega
      rw [if_pos (by omega)] at gt
      generalize hqn : (q.tot lim : Int) = qn at hq
      have hn2 : iAdd .i64 nn qn = nn + qn := add_w e_iAdd (by omega) (by omega)
      have hi2 : iAdd .i64 i 1 = ((d ++ [q]).length : Int) := by rw [List.length_append]; exact inc_w e_iAdd gi (by omega)
      have hn4 : iAdd .i64 nn qn ≤ 1 + Ex.cntL (d ++ [q]) ∧ 0 ≤ iAdd .i64 nn qn := by rw [Ex.cntL_append, Ex.cntL, Ex.cntL, hn2]; omega
      have hn3 : (iAdd .i64 nn qn).toNat = nn.toNat + q.tot lim := by omega
      refine goB hX 0 (by conv => lhs; cbv; try simp only [hc, hat, hb, h2]; cbv; try simp only [hc, hat, hb, h2]; cbv; try simp only [hc, hat, hb, h2]; cbv; try simp only [hc, hat, hb, h2]; cbv) ?_
      refine goB hX 1 (by conv => lhs; cbv; try simp only [hc, hat, hb, h2]; cbv; try simp only [hc, hat, hb, h2]; cbv; try simp only [hc, hat, hb, h2]; cbv; try simp only [hc, hat, hb, h2]; cbv) ?_
      refine on_pcall (args := [AV.agg [int qO, AV.isl 8 qA, int qV, int qF, int qK, int qXk, int qXn, str qXt], int li]) rfl rfl rfl hq (by simp [AV.closedL, closed_v, closed_agg, hqc]) ?_
      refine goA 60 ?_
      refine loopP_next (d ++ [q], r, iAdd .i64 i 1, iAdd .i64 nn qn) ⟨by simp [g1], hi2, hn4.1, hn4.2, hn3 ▸ gt⟩ (by simp) (ent_sub [.to 0] [some 0] ⟨⟨by simp, rfl⟩, trivial⟩ ⟨osrc_cells (b := 0) rfl rfl rfl ⟨.refl _, .cl hcl, .refl _, .refl _, .refl _, .refl _, .refl _, .refl _, trivial⟩, trivial⟩ ⟨.refl _, .refl _, .refl _, .refl _, trivial⟩)
    · have h2 : iLe nn li = false := by simp [ee]; omega
      rw [if_neg (by omega)] at gt
      have hv : nn = (R : Int) := by omega
      refine goB hX 0 (by conv => lhs; cbv; try simp only [hc, hat, hb, h2]; cbv; try simp only [hc, hat, hb, h2]; cbv; try simp only [hc, hat, hb, h2]; cbv; try simp only [hc, hat, hb, h2]; cbv) ?_
      refine goA 60 ?_
      refine loopP_exit ?_
      refine goA 60 ?_
      refine fn_ret rfl rfl (.val ?_)
      exact congrArg (Value.int .i64) hv
end Go.Am
end
section
set_option linter.unusedVariables false
set_option linter.unusedSimpArgs false
set_option maxRecDepth 20000
namespace Go.Am
open Go.Proofs
mutual
def Pat.tot (lim : Nat) : Pat → Nat
  | .mk _ a _ _ _ _ _ => Pat.totL lim 1 a
def Pat.totL (lim : Nat) : Nat → List Pat → Nat
  | n, [] => n
  | n, e :: r => if n ≤ lim then Pat.totL lim (n + e.tot lim) r else n
end
theorem Pat.totL_le {lim : Nat} {l : List Pat} (h : ∀ e ∈ l, e.tot lim ≤ e.cnt) : ∀ n, Pat.totL lim n l ≤ n + Pat.cntL l := by
  induction l with
  | nil => intro n; simp [Pat.totL]
  | cons e r ih =>
    intro n
    have h1 := h e (by simp)
    have h2 := ih (fun e he => h e (by simp [he])) (n + e.tot lim)
    simp only [Pat.totL, Pat.cntL]; split <;> omega
theorem Pat.tot_le (lim : Nat) : ∀ e : Pat, e.tot lim ≤ e.cnt := Pat.ind fun o a t v s n c h => by
  have := Pat.totL_le h 1
  simp only [Pat.tot, Pat.cnt]; omega
theorem Pat.totL_eq {lim : Nat} {l : List Pat} (h : ∀ e ∈ l, e.cnt ≤ lim → e.tot lim = e.cnt) : ∀ n, n + Pat.cntL l ≤ lim → Pat.totL lim n l = n + Pat.cntL l := by
  induction l with
  | nil => intro n _; simp [Pat.totL, Pat.cntL]
  | cons e r ih =>
    intro n hn
    simp only [Pat.cntL] at hn ⊢
    have h1 := h e (by simp) (by omega)
    rw [Pat.totL, if_pos (by omega), ih (fun e he => h e (by simp [he])) _ (by omega)]; omega
theorem Pat.tot_eq {lim : Nat} : ∀ e : Pat, e.cnt ≤ lim → e.tot lim = e.cnt := Pat.ind fun o a t v s n c h hl => by
  simp only [Pat.tot, Pat.cnt] at hl ⊢
  exact Pat.totL_eq h 1 hl
theorem Pat.totL_gt {lim : Nat} {l : List Pat} (h : ∀ e ∈ l, lim < e.cnt → lim < e.tot lim) : ∀ n, lim < n + Pat.cntL l → lim < Pat.totL lim n l := by
  induction l with
  | nil => intro n hn; simpa [Pat.totL, Pat.cntL] using hn
  | cons e r ih =>
    intro n hn
    simp only [Pat.cntL] at hn
    rw [Pat.totL]
    split
    · refine ih (fun e he => h e (by simp [he])) _ ?_
      by_cases hc : e.cnt ≤ lim
      · rw [Pat.tot_eq e hc]; omega
      · have := h e (by simp) (by omega); omega
    · omega
theorem Pat.tot_gt {lim : Nat} : ∀ e : Pat, lim < e.cnt → lim < e.tot lim := Pat.ind fun o a t v s n c h hl => by
  simp only [Pat.tot, Pat.cnt] at hl ⊢
  exact Pat.totL_gt h 1 hl
theorem Pat.tot_iff (e : Pat) (lim : Nat) : e.tot lim ≤ lim ↔ e.cnt ≤ lim := by
  by_cases h : e.cnt ≤ lim
  · rw [Pat.tot_eq e h]
  · have := Pat.tot_gt (lim := lim) e (by omega); omega
theorem P_ref09_Total (lim : Nat) (hlim : lim ≤ 1099511627776) : ∀ p : Pat, p.Sm → PCall EE 21 [p.enc, int lim] (int (p.tot lim)) := by
  generalize hli : (lim : Int) = li
  refine Pat.ind ?_
  intro o a t v s n c ih hs
  obtain ⟨co, ca, cv, cf, ck, xk, xn, xt⟩ := c
  have hlen := hs.len
  have hih : ∀ q ∈ a, PCall EE 21 [q.enc, int li] (int (q.tot lim)) := fun q hq => ih q hq (hs.arg hq)
  have hcl := Pat.closedI a
  have hce := Ex.closedI ca
  have hcnt : Pat.cntL a ≤ 1048576 := by have hs := hs.1; simp only [Pat.cnt] at hs; omega
  have hde := fun q : Pat => Pat.tot_le lim q
  simp only [Pat.tot]
  obtain ⟨R, hR⟩ : ∃ R, R = Pat.totL lim 1 a := ⟨_, rfl⟩
  rw [← hR, Pat.enc_mk]
  refine words fun iLt iLe iEq iNe iAdd iSub iMul iQuo iRem iShr iNeg iCvt iMax iMin bNot bEq bNe bAnd bOr sEq sNe sLen sCat sCut sAt lenA lenN iOf natOf atA atN cutA partA dropA catA setA repA putA idxN addN subN minN lenCut rowA hX e_iLt e_iLe e_iEq e_iNe e_iAdd e_iSub e_iMul e_iQuo e_iRem e_iShr e_iNeg e_iCvt e_iMax e_iMin e_bNot e_bEq e_bNe e_bAnd e_bOr e_sEq e_sNe e_sLen e_sCat e_sCut e_sAt e_lenA e_lenN e_iOf e_natOf e_atA e_atN e_cutA e_partA e_dropA e_catA e_setA e_repA e_putA e_idxN e_addN e_subN e_minN e_lenCut e_rowA ee => ?_
  generalize hes : mapE Pat.enc a = es at *
  generalize mapE Ex.enc ca = ec at *
  have hel : es.length = a.length := by rw [← hes, mapE_len]
  refine fn_body (fn := Tryd.f21) (n := 29) (ac := Trydc21) (rvs := [.t 4]) rfl (by decide) Trydp21 rfl rfl rfl ?_
  refine goA 60 ?_
  refine on_loopP (ι := List Pat × List Pat × Int × Int) (fun p => ([(5, int p.2.2.2), (6, int p.2.2.1), (1, int li), (2, .ptr 0 0)], [.cells [int o, .isl 14 es, int t, int v, int s, int n, int co, .isl 8 ec, int cv, int cf, int ck, int xk, int xn, str xt]])) (fun p => a = p.1 ++ p.2.1 ∧ p.2.2.1 = p.1.length ∧ p.2.2.2 ≤ 1 + Pat.cntL p.1 ∧ 0 ≤ p.2.2.2 ∧ R = Pat.totL lim p.2.2.2.toNat p.2.1) (fun p => p.2.1.length) ([], a, 0, 1) ⟨rfl, rfl, by simp [Pat.cntL], by simp, hR⟩ ?_ ?_
  · exact (ent_sub [.to 0] [some 0] ⟨⟨by simp, rfl⟩, trivial⟩ ⟨osrc_cells (b := 0) rfl rfl rfl ⟨.refl _, .cl hcl, .refl _, .refl _, .refl _, .refl _, .refl _, .cl hce, .refl _, .refl _, .refl _, .refl _, .refl _, .refl _, trivial⟩, trivial⟩ ⟨.refl _, .refl _, .refl _, .refl _, trivial⟩)
  rintro ⟨d, r, i, nn⟩ ⟨g1, gi, gn, gp, gt⟩
  dsimp only at g1 gi gn gp gt ⊢
  have hnt : (nn.toNat : Int) = nn := Int.toNat_of_nonneg gp
  cases r with
  | nil =>
    have L1 := len_split g1
    try simp only [List.length_cons, List.length_nil] at L1
    have hc : iLt i (lenA es) = false := lt_f e_iLt e_lenA (by omega)
    rw [Pat.totL] at gt
    have hv : nn = (R : Int) := by omega
    have hb : ∀ b, bAnd false b = false := by simp [ee]
    refine goB hX 0 (by conv => lhs; cbv; try simp only [hc, hb]; cbv; try simp only [hc, hb]; cbv; try simp only [hc, hb]; cbv; try simp only [hc, hb]; cbv) ?_
    refine goA 60 ?_
    refine loopP_exit ?_
    refine goA 60 ?_
    refine fn_ret rfl rfl (.val ?_)
    exact congrArg (Value.int .i64) hv
  | cons q r =>
    have L1 := len_split g1
    try simp only [List.length_cons, List.length_nil] at L1
    have hc : iLt i (lenA es) = true := lt_t e_iLt e_lenA (by omega)
    have hat := el_at e_atA hes g1 gi
    have hq := hih q (by rw [g1]; simp)
    have hqc := Pat.closed q
    have hqd := hde q
    rw [g1, Pat.cntL_append, Pat.cntL] at hcnt
    obtain ⟨qO, qA, qT, qV, qS, qN, qCo, qCa, qCv, qCf, qCk, qXk, qXn, qXt, hx⟩ := Pat.form q
    rw [hx] at hq hat hqc
    have hb : ∀ b, bAnd true b = b := by simp [ee]
    rw [Pat.totL] at gt
    by_cases hle : nn ≤ li
    · have h2 : iLe nn li = true := by simp [ee]; omega
      rw [if_pos (by omega)] at gt
      generalize hqn : (q.tot lim : Int) = qn at hq
      have hn2 : iAdd .i64 nn qn = nn + qn := add_w e_iAdd (by omega) (by omega)
      have hi2 : iAdd .i64 i 1 = ((d ++ [q]).length : Int) := by rw [List.length_append]; exact inc_w e_iAdd gi (by omega)
      have hn4 : iAdd .i64 nn qn ≤ 1 + Pat.cntL (d ++ [q]) ∧ 0 ≤ iAdd .i64 nn qn := by rw [Pat.cntL_append, Pat.cntL, Pat.cntL, hn2]; omega
      have hn3 : (iAdd .i64 nn qn).toNat = nn.toNat + q.tot lim := by omega
      refine goB hX 0 (by conv => lhs; cbv; try simp only [hc, hat, hb, h2]; cbv; try simp only [hc, hat, hb, h2]; cbv; try simp only [hc, hat, hb, h2]; cbv; try simp only [hc, hat, hb, h2]; cbv) ?_
      refine goB hX 1 (by conv => lhs; cbv; try simp only [hc, hat, hb, h2]; cbv; try simp only [hc, hat, hb, h2]; cbv; try simp only [hc, hat, hb, h2]; cbv; try simp only [hc, hat, hb, h2]; cbv) ?_
      refine on_pcall (args := [AV.agg [int qO, AV.isl 14 qA, int qT, int qV, int qS, int qN, int qCo, AV.isl 8 qCa, int qCv, int qCf, int qCk, int qXk, int qXn, str qXt], int li]) rfl rfl rfl hq (by simp [AV.closedL, closed_v, closed_agg, hqc]) ?_
      refine goA 60 ?_
      refine loopP_next (d ++ [q], r, iAdd .i64 i 1, iAdd .i64 nn qn) ⟨by simp [g1], hi2, hn4.1, hn4.2, hn3 ▸ gt⟩ (by simp) (ent_sub [.to 0] [some 0] ⟨⟨by simp, rfl⟩, trivial⟩ ⟨osrc_cells (b := 0) rfl rfl rfl ⟨.refl _, .cl hcl, .refl _, .refl _, .refl _, .refl _, .refl _, .cl hce, .refl _, .refl _, .refl _, .refl _, .refl _, .refl _, trivial⟩, trivial⟩ ⟨.refl _, .refl _, .refl _, .refl _, trivial⟩)
    · have h2 : iLe nn li = false := by simp [ee]; omega
      rw [if_neg (by omega)] at gt
      have hv : nn = (R : Int) := by omega
      refine goB hX 0 (by conv => lhs; cbv; try simp only [hc, hat, hb, h2]; cbv; try simp only [hc, hat, hb, h2]; cbv; try simp only [hc, hat, hb, h2]; cbv; try simp only [hc, hat, hb, h2]; cbv) ?_
      refine goA 60 ?_
      refine loopP_exit ?_
      refine goA 60 ?_
      refine fn_ret rfl rfl (.val ?_)
      exact congrArg (Value.int .i64) hv
end Go.Am
end
section
set_option linter.unusedVariables false
set_option linter.unusedSimpArgs false
set_option maxRecDepth 20000
namespace Go.Am
open Go.Proofs
theorem P_ref08_Depth : ∀ p : Ex, p.Sm → PCall EE 42 [p.enc] (int p.dep) := by
  refine Ex.ind ?_
  intro o a v f k x ih hs
  obtain ⟨xk, xn, xt⟩ := x
  have hlen := hs.len
  have hih : ∀ q ∈ a, PCall EE 42 [q.enc] (int q.dep) := fun q hq => ih q hq (hs.arg hq)
  have hcl := Ex.closedI a
  have hcnt : Ex.cntL a ≤ 1048576 := by unfold Ex.Sm at hs; simp only [Ex.cnt] at hs; omega
  have hde := fun q : Ex => Ex.dep_le q
  simp only [Ex.dep]
  obtain ⟨R, hR⟩ : ∃ R, R = Ex.depL 0 a := ⟨_, rfl⟩
  rw [← hR, Ex.enc_mk]
  refine words fun iLt iLe iEq iNe iAdd iSub iMul iQuo iRem iShr iNeg iCvt iMax iMin bNot bEq bNe bAnd bOr sEq sNe sLen sCat sCut sAt lenA lenN iOf natOf atA atN cutA partA dropA catA setA repA putA idxN addN subN minN lenCut rowA hX e_iLt e_iLe e_iEq e_iNe e_iAdd e_iSub e_iMul e_iQuo e_iRem e_iShr e_iNeg e_iCvt e_iMax e_iMin e_bNot e_bEq e_bNe e_bAnd e_bOr e_sEq e_sNe e_sLen e_sCat e_sCut e_sAt e_lenA e_lenN e_iOf e_natOf e_atA e_atN e_cutA e_partA e_dropA e_catA e_setA e_repA e_putA e_idxN e_addN e_subN e_minN e_lenCut e_rowA ee => ?_
  generalize hes : mapE Ex.enc a = es at *
  have hel : es.length = a.length := by rw [← hes, mapE_len]
  refine fn_body (fn := Tryd.f42) (n := 22) (ac := Trydc42) (rvs := [.t 2]) rfl (by decide) Trydp42 rfl rfl rfl ?_
  refine goA 60 ?_
  refine on_loopP (ι := List Ex × List Ex × Int × Int) (fun p => ([(3, int p.2.2.2), (4, int p.2.2.1), (1, .ptr 0 0)], [.cells [int o, .isl 8 es, int v, int f, int k, int xk, int xn, str xt]])) (fun p => a = p.1 ++ p.2.1 ∧ p.2.2.1 = p.1.length ∧ p.2.2.2 ≤ 1048576 ∧ 0 ≤ p.2.2.2 ∧ R = Ex.depL p.2.2.2.toNat p.2.1) (fun p => p.2.1.length) ([], a, 0, 0) ⟨rfl, rfl, by simp, by simp, hR⟩ ?_ ?_
  · exact (ent_sub [.to 0] [some 0] ⟨⟨by simp, rfl⟩, trivial⟩ ⟨osrc_cells (b := 0) rfl rfl rfl ⟨.refl _, .cl hcl, .refl _, .refl _, .refl _, .refl _, .refl _, .refl _, trivial⟩, trivial⟩ ⟨.refl _, .refl _, .refl _, trivial⟩)
  rintro ⟨d, r, i, dd⟩ ⟨g1, gi, gn, gp, gt⟩
  dsimp only at g1 gi gn gp gt ⊢
  cases r with
  | nil =>
    have L1 := len_split g1
    try simp only [List.length_cons, List.length_nil] at L1
    have hc : iLt i (lenA es) = false := lt_f e_iLt e_lenA (by omega)
    rw [Ex.depL] at gt
    have ha1 : iAdd .i64 dd 1 = ((R + 1 : Nat) : Int) := by rw [add_w e_iAdd (by omega) (by omega)]; omega
    refine goB hX 0 (by conv => lhs; cbv; try simp only [hc]; cbv; try simp only [hc]; cbv; try simp only [hc]; cbv; try simp only [hc]; cbv) ?_
    refine goA 60 ?_
    refine loopP_exit ?_
    refine goA 60 ?_
    refine fn_ret rfl rfl (.val ?_)
    exact congrArg (Value.int .i64) ha1
  | cons q r =>
    have L1 := len_split g1
    try simp only [List.length_cons, List.length_nil] at L1
    have hc : iLt i (lenA es) = true := lt_t e_iLt e_lenA (by omega)
    have hat := el_at e_atA hes g1 gi
    have hq := hih q (by rw [g1]; simp)
    have hqc := Ex.closed q
    have hqd := hde q
    rw [g1, Ex.cntL_append, Ex.cntL] at hcnt
    obtain ⟨qO, qA, qV, qF, qK, qXk, qXn, qXt, hx⟩ := Ex.form q
    rw [hx] at hq hat hqc
    rw [Ex.depL] at gt
    generalize hqn : (q.dep : Int) = qn at hq
    have hd2 : iMax dd qn = ((max dd.toNat q.dep : Nat) : Int) := by simp only [ee]; split <;> omega
    have hd3 : (iMax dd qn).toNat = max dd.toNat q.dep := by omega
    have hi2 : iAdd .i64 i 1 = ((d ++ [q]).length : Int) := by rw [List.length_append]; exact inc_w e_iAdd gi (by omega)
    refine goB hX 0 (by conv => lhs; cbv; try simp only [hc, hat]; cbv; try simp only [hc, hat]; cbv; try simp only [hc, hat]; cbv; try simp only [hc, hat]; cbv) ?_
    refine goB hX 1 (by conv => lhs; cbv; try simp only [hc, hat]; cbv; try simp only [hc, hat]; cbv; try simp only [hc, hat]; cbv; try simp only [hc, hat]; cbv) ?_
    refine on_pcall (args := [AV.agg [int qO, AV.isl 8 qA, int qV, int qF, int qK, int qXk, int qXn, str qXt]]) rfl rfl rfl hq (by simp [AV.closedL, closed_v, closed_agg, hqc]) ?_
    refine goA 60 ?_
    refine loopP_next (d ++ [q], r, iAdd .i64 i 1, iMax dd qn) ⟨by simp [g1], hi2, by show iMax dd qn ≤ 1048576; omega, by show 0 ≤ iMax dd qn; omega, hd3 ▸ gt⟩ (by simp) (ent_sub [.to 0] [some 0] ⟨⟨by simp, rfl⟩, trivial⟩ ⟨osrc_cells (b := 0) rfl rfl rfl ⟨.refl _, .cl hcl, .refl _, .refl _, .refl _, .refl _, .refl _, .refl _, trivial⟩, trivial⟩ ⟨.refl _, .refl _, .refl _, trivial⟩)
theorem P_ref09_Depth : ∀ p : Pat, p.Sm → PCall EE 22 [p.enc] (int p.dep) := by
  refine Pat.ind ?_
  intro o a t v s n c ih hs
  obtain ⟨co, ca, cv, cf, ck, xk, xn, xt⟩ := c
  have hlen := hs.len
  have hih : ∀ q ∈ a, PCall EE 22 [q.enc] (int q.dep) := fun q hq => ih q hq (hs.arg hq)
  have hcl := Pat.closedI a
  have hce := Ex.closedI ca
  have hcnt : Pat.cntL a ≤ 1048576 := by have hs := hs.1; simp only [Pat.cnt] at hs; omega
  have hde := fun q : Pat => Pat.dep_le q
  simp only [Pat.dep]
  obtain ⟨R, hR⟩ : ∃ R, R = Pat.depL 0 a := ⟨_, rfl⟩
  rw [← hR, Pat.enc_mk]
  refine words fun iLt iLe iEq iNe iAdd iSub iMul iQuo iRem iShr iNeg iCvt iMax iMin bNot bEq bNe bAnd bOr sEq sNe sLen sCat sCut sAt lenA lenN iOf natOf atA atN cutA partA dropA catA setA repA putA idxN addN subN minN lenCut rowA hX e_iLt e_iLe e_iEq e_iNe e_iAdd e_iSub e_iMul e_iQuo e_iRem e_iShr e_iNeg e_iCvt e_iMax e_iMin e_bNot e_bEq e_bNe e_bAnd e_bOr e_sEq e_sNe e_sLen e_sCat e_sCut e_sAt e_lenA e_lenN e_iOf e_natOf e_atA e_atN e_cutA e_partA e_dropA e_catA e_setA e_repA e_putA e_idxN e_addN e_subN e_minN e_lenCut e_rowA ee => ?_
  generalize hes : mapE Pat.enc a = es at *
  generalize mapE Ex.enc ca = ec at *
  have hel : es.length = a.length := by rw [← hes, mapE_len]
  refine fn_body (fn := Tryd.f22) (n := 22) (ac := Trydc22) (rvs := [.t 2]) rfl (by decide) Trydp22 rfl rfl rfl ?_
  refine goA 60 ?_
  refine on_loopP (ι := List Pat × List Pat × Int × Int) (fun p => ([(3, int p.2.2.2), (4, int p.2.2.1), (1, .ptr 0 0)], [.cells [int o, .isl 14 es, int t, int v, int s, int n, int co, .isl 8 ec, int cv, int cf, int ck, int xk, int xn, str xt]])) (fun p => a = p.1 ++ p.2.1 ∧ p.2.2.1 = p.1.length ∧ p.2.2.2 ≤ 1048576 ∧ 0 ≤ p.2.2.2 ∧ R = Pat.depL p.2.2.2.toNat p.2.1) (fun p => p.2.1.length) ([], a, 0, 0) ⟨rfl, rfl, by simp, by simp, hR⟩ ?_ ?_
  · exact (ent_sub [.to 0] [some 0] ⟨⟨by simp, rfl⟩, trivial⟩ ⟨osrc_cells (b := 0) rfl rfl rfl ⟨.refl _, .cl hcl, .refl _, .refl _, .refl _, .refl _, .refl _, .cl hce, .refl _, .refl _, .refl _, .refl _, .refl _, .refl _, trivial⟩, trivial⟩ ⟨.refl _, .refl _, .refl _, trivial⟩)
  rintro ⟨d, r, i, dd⟩ ⟨g1, gi, gn, gp, gt⟩
  dsimp only at g1 gi gn gp gt ⊢
  cases r with
  | nil =>
    have L1 := len_split g1
    try simp only [List.length_cons, List.length_nil] at L1
    have hc : iLt i (lenA es) = false := lt_f e_iLt e_lenA (by omega)
    rw [Pat.depL] at gt
    have ha1 : iAdd .i64 dd 1 = ((R + 1 : Nat) : Int) := by rw [add_w e_iAdd (by omega) (by omega)]; omega
    refine goB hX 0 (by conv => lhs; cbv; try simp only [hc]; cbv; try simp only [hc]; cbv; try simp only [hc]; cbv; try simp only [hc]; cbv) ?_
    refine goA 60 ?_
    refine loopP_exit ?_
    refine goA 60 ?_
    refine fn_ret rfl rfl (.val ?_)
    exact congrArg (Value.int .i64) ha1
  | cons q r =>
    have L1 := len_split g1
    try simp only [List.length_cons, List.length_nil] at L1
    have hc : iLt i (lenA es) = true := lt_t e_iLt e_lenA (by omega)
    have hat := el_at e_atA hes g1 gi
    have hq := hih q (by rw [g1]; simp)
    have hqc := Pat.closed q
    have hqd := hde q
    rw [g1, Pat.cntL_append, Pat.cntL] at hcnt
    obtain ⟨qO, qA, qT, qV, qS, qN, qCo, qCa, qCv, qCf, qCk, qXk, qXn, qXt, hx⟩ := Pat.form q
    rw [hx] at hq hat hqc
    rw [Pat.depL] at gt
    generalize hqn : (q.dep : Int) = qn at hq
    have hd2 : iMax dd qn = ((max dd.toNat q.dep : Nat) : Int) := by simp only [ee]; split <;> omega
    have hd3 : (iMax dd qn).toNat = max dd.toNat q.dep := by omega
    have hi2 : iAdd .i64 i 1 = ((d ++ [q]).length : Int) := by rw [List.length_append]; exact inc_w e_iAdd gi (by omega)
    refine goB hX 0 (by conv => lhs; cbv; try simp only [hc, hat]; cbv; try simp only [hc, hat]; cbv; try simp only [hc, hat]; cbv; try simp only [hc, hat]; cbv) ?_
    refine goB hX 1 (by conv => lhs; cbv; try simp only [hc, hat]; cbv; try simp only [hc, hat]; cbv; try simp only [hc, hat]; cbv; try simp only [hc, hat]; cbv) ?_
    refine on_pcall (args := [AV.agg [int qO, AV.isl 14 qA, int qT, int qV, int qS, int qN, int qCo, AV.isl 8 qCa, int qCv, int qCf, int qCk, int qXk, int qXn, str qXt]]) rfl rfl rfl hq (by simp [AV.closedL, closed_v, closed_agg, hqc]) ?_
    refine goA 60 ?_
    refine loopP_next (d ++ [q], r, iAdd .i64 i 1, iMax dd qn) ⟨by simp [g1], hi2, by show iMax dd qn ≤ 1048576; omega, by show 0 ≤ iMax dd qn; omega, hd3 ▸ gt⟩ (by simp) (ent_sub [.to 0] [some 0] ⟨⟨by simp, rfl⟩, trivial⟩ ⟨osrc_cells (b := 0) rfl rfl rfl ⟨.refl _, .cl hcl, .refl _, .refl _, .refl _, .refl _, .refl _, .cl hce, .refl _, .refl _, .refl _, .refl _, .refl _, .refl _, trivial⟩, trivial⟩ ⟨.refl _, .refl _, .refl _, trivial⟩)
end Go.Am
end
section
set_option linter.unusedVariables false
set_option linter.unusedSimpArgs false
set_option maxRecDepth 20000
namespace Go.Am
open Go.Proofs
def Ex.few (e : Ex) : Bool := decide (e.cnt ≤ 200) && decide (e.dep ≤ 100)
def Pat.few (p : Pat) : Bool := decide (p.cnt ≤ 150) && decide (p.dep ≤ 60) && p.nodes.all (fun q => q.cond.few)
theorem P_ref08_Few (e : Ex) (hs : e.Sm) : PCall EE 24 [e.enc] (bool e.few) := by
  have h1 : PCall EE 41 [e.enc, int 200] (int (e.tot 200)) := P_ref08_Count 200 (by omega) e hs
  have h2 := P_ref08_Depth e hs
  have hcl := Ex.closed e
  obtain ⟨R, hR⟩ : ∃ R, R = e.few := ⟨_, rfl⟩
  rw [← hR]
  unfold Ex.few at hR
  have ht := Ex.tot_iff e 200
  obtain ⟨eO, eA, eV, eF, eK, eXk, eXn, eXt, hx⟩ := Ex.form e
  rw [hx] at h1 h2 hcl ⊢
  refine words fun iLt iLe iEq iNe iAdd iSub iMul iQuo iRem iShr iNeg iCvt iMax iMin bNot bEq bNe bAnd bOr sEq sNe sLen sCat sCut sAt lenA lenN iOf natOf atA atN cutA partA dropA catA setA repA putA idxN addN subN minN lenCut rowA hX e_iLt e_iLe e_iEq e_iNe e_iAdd e_iSub e_iMul e_iQuo e_iRem e_iShr e_iNeg e_iCvt e_iMax e_iMin e_bNot e_bEq e_bNe e_bAnd e_bOr e_sEq e_sNe e_sLen e_sCat e_sCut e_sAt e_lenA e_lenN e_iOf e_natOf e_atA e_atN e_cutA e_partA e_dropA e_catA e_setA e_repA e_putA e_idxN e_addN e_subN e_minN e_lenCut e_rowA ee => ?_
  generalize ht1 : (e.tot 200 : Int) = tn at *
  generalize ht2 : (e.dep : Int) = dn at *
  refine fn_body (fn := Tryd.f24) (n := 11) (ac := Trydc24) (rvs := [.t 2]) rfl (by decide) Trydp24 rfl rfl rfl ?_
  by_cases hc1 : e.cnt ≤ 200
  · have w1 : iLe tn 200 = true := by simp only [ee]; simp; omega
    by_cases hc2 : e.dep ≤ 100
    · have w2 : iLe dn 100 = true := by simp only [ee]; simp; omega
      have hR : R = true := by rw [hR]; simp [hc1, hc2]
      refine goA 60 ?_
      refine on_pcall (args := [AV.agg [int eO, AV.isl 8 eA, int eV, int eF, int eK, int eXk, int eXn, str eXt], int 200]) rfl rfl rfl h1 (by simp [AV.closedL, closed_v, closed_agg, hcl]) ?_
      refine goB hX 0 (by conv => lhs; cbv; try simp only [w1, w2]; cbv; try simp only [w1, w2]; cbv; try simp only [w1, w2]; cbv; try simp only [w1, w2]; cbv) ?_
      refine goA 60 ?_
      refine on_gpcall (args := [AV.agg [int eO, AV.isl 8 eA, int eV, int eF, int eK, int eXk, int eXn, str eXt]]) rfl rfl rfl rfl h2 (by simp [AV.closedL, closed_v, closed_agg, hcl]) ?_
      refine goA 60 ?_
      refine fn_ret rfl rfl (.val ?_)
      exact congrArg Value.bool (by rw [w2, hR]; simp [ee])
    · have w2 : iLe dn 100 = false := by simp only [ee]; simp; omega
      have hR : R = false := by rw [hR]; simp [hc2]
      refine goA 60 ?_
      refine on_pcall (args := [AV.agg [int eO, AV.isl 8 eA, int eV, int eF, int eK, int eXk, int eXn, str eXt], int 200]) rfl rfl rfl h1 (by simp [AV.closedL, closed_v, closed_agg, hcl]) ?_
      refine goB hX 0 (by conv => lhs; cbv; try simp only [w1, w2]; cbv; try simp only [w1, w2]; cbv; try simp only [w1, w2]; cbv; try simp only [w1, w2]; cbv) ?_
      refine goA 60 ?_
      refine on_gpcall (args := [AV.agg [int eO, AV.isl 8 eA, int eV, int eF, int eK, int eXk, int eXn, str eXt]]) rfl rfl rfl rfl h2 (by simp [AV.closedL, closed_v, closed_agg, hcl]) ?_
      refine goA 60 ?_
      refine fn_ret rfl rfl (.val ?_)
      exact congrArg Value.bool (by rw [w2, hR]; simp [ee])
  · have w1 : iLe tn 200 = false := by simp only [ee]; simp; omega
    have hR : R = false := by rw [hR]; simp [hc1]
    refine goA 60 ?_
    refine on_pcall (args := [AV.agg [int eO, AV.isl 8 eA, int eV, int eF, int eK, int eXk, int eXn, str eXt], int 200]) rfl rfl rfl h1 (by simp [AV.closedL, closed_v, closed_agg, hcl]) ?_
    refine goB hX 0 (by conv => lhs; cbv; try simp only [w1]; cbv; try simp only [w1]; cbv; try simp only [w1]; cbv; try simp only [w1]; cbv) ?_
    refine goA 60 ?_
    refine on_gskip rfl rfl ?_
    refine goA 60 ?_
    refine fn_ret rfl rfl (.val ?_)
    exact congrArg Value.bool hR.symm
set_option maxHeartbeats 1000000 in
theorem P_ref09_Few (p : Pat) (hs : p.Sm) : PCall EE 7 [p.enc] (bool p.few) := by
  have h1 : PCall EE 21 [p.enc, int 150] (int (p.tot 150)) := P_ref09_Total 150 (by omega) p hs
  have h2 := P_ref09_Depth p hs
  have h3 := P_ref09_Nodes p hs
  have hsn := hs.node
  have hnl := Pat.nodes_len p
  have hcn := hs.1
  have hcl := Pat.closed p
  have hcn2 := Pat.closedI p.nodes
  obtain ⟨R, hR⟩ : ∃ R, R = p.few := ⟨_, rfl⟩
  rw [← hR]
  unfold Pat.few at hR
  have ht := Pat.tot_iff p 150
  obtain ⟨pO, pA, pT, pV, pS, pN, pCo, pCa, pCv, pCf, pCk, pXk, pXn, pXt, hx⟩ := Pat.form p
  rw [hx] at h1 h2 h3 hcl ⊢
  refine words fun iLt iLe iEq iNe iAdd iSub iMul iQuo iRem iShr iNeg iCvt iMax iMin bNot bEq bNe bAnd bOr sEq sNe sLen sCat sCut sAt lenA lenN iOf natOf atA atN cutA partA dropA catA setA repA putA idxN addN subN minN lenCut rowA hX e_iLt e_iLe e_iEq e_iNe e_iAdd e_iSub e_iMul e_iQuo e_iRem e_iShr e_iNeg e_iCvt e_iMax e_iMin e_bNot e_bEq e_bNe e_bAnd e_bOr e_sEq e_sNe e_sLen e_sCat e_sCut e_sAt e_lenA e_lenN e_iOf e_natOf e_atA e_atN e_cutA e_partA e_dropA e_catA e_setA e_repA e_putA e_idxN e_addN e_subN e_minN e_lenCut e_rowA ee => ?_
  generalize ht1 : (p.tot 150 : Int) = tn at *
  generalize ht2 : (p.dep : Int) = dn at *
  generalize hnod : p.nodes = nl at *
  generalize hes : mapE Pat.enc nl = es at *
  have hel : es.length = nl.length := by rw [← hes, mapE_len]
  refine fn_body (fn := Tryd.f7) (n := 28) (ac := Trydc7) (rvs := [.t 2]) rfl (by decide) Trydp7 rfl rfl rfl ?_
  by_cases hc1 : p.cnt ≤ 150
  rotate_left
  · have w1 : iLt 150 tn = true := by simp only [ee]; simp; omega
    have hR : R = false := by rw [hR]; simp [hc1]
    refine goA 60 ?_
    refine on_pcall (args := [AV.agg [int pO, AV.isl 14 pA, int pT, int pV, int pS, int pN, int pCo, AV.isl 8 pCa, int pCv, int pCf, int pCk, int pXk, int pXn, str pXt], int 150]) rfl rfl rfl h1 (by simp [AV.closedL, closed_v, closed_agg, hcl]) ?_
    refine goB hX 0 (by conv => lhs; cbv; try simp only [w1]; cbv; try simp only [w1]; cbv; try simp only [w1]; cbv; try simp only [w1]; cbv) ?_
    refine goA 60 ?_
    refine on_gskip rfl rfl ?_
    refine goA 60 ?_
    refine fn_ret rfl rfl (.val ?_)
    exact congrArg Value.bool hR.symm
  have w1 : iLt 150 tn = false := by simp only [ee]; simp; omega
  by_cases hc2 : p.dep ≤ 60
  rotate_left
  · have w2 : iLt 60 dn = true := by simp only [ee]; simp; omega
    have hR : R = false := by rw [hR]; simp [hc2]
    refine goA 60 ?_
    refine on_pcall (args := [AV.agg [int pO, AV.isl 14 pA, int pT, int pV, int pS, int pN, int pCo, AV.isl 8 pCa, int pCv, int pCf, int pCk, int pXk, int pXn, str pXt], int 150]) rfl rfl rfl h1 (by simp [AV.closedL, closed_v, closed_agg, hcl]) ?_
    refine goB hX 0 (by conv => lhs; cbv; try simp only [w1, w2]; cbv; try simp only [w1, w2]; cbv; try simp only [w1, w2]; cbv; try simp only [w1, w2]; cbv) ?_
    refine goA 60 ?_
    refine on_gpcall (args := [AV.agg [int pO, AV.isl 14 pA, int pT, int pV, int pS, int pN, int pCo, AV.isl 8 pCa, int pCv, int pCf, int pCk, int pXk, int pXn, str pXt]]) rfl rfl rfl rfl h2 (by simp [AV.closedL, closed_v, closed_agg, hcl]) ?_
    refine goB hX 0 (by conv => lhs; cbv; try simp only [w1, w2]; cbv; try simp only [w1, w2]; cbv; try simp only [w1, w2]; cbv; try simp only [w1, w2]; cbv) ?_
    refine on_cond rfl (fun c1 => ?_) (fun c1 => ?_)
    ·
      simp [ee] at c1
      refine goA 60 ?_
      refine fn_ret rfl rfl (.val ?_)
      exact congrArg Value.bool hR.symm
    ·
      simp [ee] at c1
  have w2 : iLt 60 dn = false := by simp only [ee]; simp; omega
  have hR : R = nl.all (fun q => q.cond.few) := by rw [hR]; simp [hc1, hc2]
  have hor : ∀ b, bOr false b = b := by simp [ee]
  refine goA 60 ?_
  refine on_pcall (args := [AV.agg [int pO, AV.isl 14 pA, int pT, int pV, int pS, int pN, int pCo, AV.isl 8 pCa, int pCv, int pCf, int pCk, int pXk, int pXn, str pXt], int 150]) rfl rfl rfl h1 (by simp [AV.closedL, closed_v, closed_agg, hcl]) ?_
  refine goB hX 0 (by conv => lhs; cbv; try simp only [w1, w2, hor]; cbv; try simp only [w1, w2, hor]; cbv; try simp only [w1, w2, hor]; cbv; try simp only [w1, w2, hor]; cbv) ?_
  refine goA 60 ?_
  refine on_gpcall (args := [AV.agg [int pO, AV.isl 14 pA, int pT, int pV, int pS, int pN, int pCo, AV.isl 8 pCa, int pCv, int pCf, int pCk, int pXk, int pXn, str pXt]]) rfl rfl rfl rfl h2 (by simp [AV.closedL, closed_v, closed_agg, hcl]) ?_
  refine goB hX 0 (by conv => lhs; cbv; try simp only [w1, w2, hor]; cbv; try simp only [w1, w2, hor]; cbv; try simp only [w1, w2, hor]; cbv; try simp only [w1, w2, hor]; cbv) ?_
  refine goA 60 ?_
  refine on_pcall (args := [AV.agg [int pO, AV.isl 14 pA, int pT, int pV, int pS, int pN, int pCo, AV.isl 8 pCa, int pCv, int pCf, int pCk, int pXk, int pXn, str pXt]]) rfl rfl rfl h3 (by simp [AV.closedL, closed_v, closed_agg, hcl]) ?_
  refine goA 60 ?_
  refine on_loopP (ι := List Pat × List Pat × Int) (fun p => ([(3, .isl 14 es), (4, int p.2.2)], [])) (fun p => nl = p.1 ++ p.2.1 ∧ p.2.2 = p.1.length ∧ R = p.2.1.all (fun q => q.cond.few)) (fun p => p.2.1.length) ([], nl, 0) ⟨rfl, rfl, hR⟩ ?_ ?_
  · exact (ent_sub [.gone] [] ⟨trivial, trivial⟩ trivial ⟨.cl hcn2, .refl _, trivial⟩)
  rintro ⟨d, r, i⟩ ⟨g1, gi, gR⟩
  dsimp only at g1 gi gR ⊢
  cases r with
  | nil =>
    have L1 := len_split g1
    try simp only [List.length_cons, List.length_nil] at L1
    have hc : iLt i (lenA es) = false := lt_f e_iLt e_lenA (by omega)
    have gR : R = true := by rw [gR]; rfl
    refine goB hX 0 (by conv => lhs; cbv; try simp only [hc]; cbv; try simp only [hc]; cbv; try simp only [hc]; cbv; try simp only [hc]; cbv) ?_
    refine goA 60 ?_
    refine loopP_exit ?_
    refine goA 60 ?_
    refine fn_ret rfl rfl (.val ?_)
    exact congrArg Value.bool gR.symm
  | cons q r =>
    have L1 := len_split g1
    try simp only [List.length_cons, List.length_nil] at L1
    have hc : iLt i (lenA es) = true := lt_t e_iLt e_lenA (by omega)
    have hat := el_at e_atA hes g1 gi
    have hqs : q.Sm := hsn q (by rw [g1]; simp)
    have hq := P_ref08_Few q.cond hqs.cond'
    have hqc := Ex.closed q.cond
    rw [List.all_cons] at gR
    obtain ⟨qO, qA, qT, qV, qS, qN, qCo, qCa, qCv, qCf, qCk, qXk, qXn, qXt, hx2, hx2c, hqO, hqA, hqT, hqV, hqS, hqN⟩ := Pat.form2 q
    rw [hx2c] at hq hqc
    rw [hx2] at hat
    have hi2 : iAdd .i64 i 1 = ((d ++ [q]).length : Int) := by rw [List.length_append]; exact inc_w e_iAdd gi (by omega)
    cases hb : q.cond.few with
    | true =>
      rw [hb] at hq gR
      have hnt : bNot true = false := by simp [ee]
      refine goB hX 0 (by conv => lhs; cbv; try simp only [hc, hat, hnt]; cbv; try simp only [hc, hat, hnt]; cbv; try simp only [hc, hat, hnt]; cbv; try simp only [hc, hat, hnt]; cbv) ?_
      refine goB hX 1 (by conv => lhs; cbv; try simp only [hc, hat, hnt]; cbv; try simp only [hc, hat, hnt]; cbv; try simp only [hc, hat, hnt]; cbv; try simp only [hc, hat, hnt]; cbv) ?_
      refine on_pcall (args := [AV.agg [int qCo, AV.isl 8 qCa, int qCv, int qCf, int qCk, int qXk, int qXn, str qXt]]) rfl rfl rfl hq (by simp [AV.closedL, closed_v, closed_agg, hqc]) ?_
      refine goB hX 0 (by conv => lhs; cbv; try simp only [hc, hat, hnt]; cbv; try simp only [hc, hat, hnt]; cbv; try simp only [hc, hat, hnt]; cbv; try simp only [hc, hat, hnt]; cbv) ?_
      refine goA 60 ?_
      refine loopP_next (d ++ [q], r, iAdd .i64 i 1) ⟨by simp [g1], hi2, by simpa using gR⟩ (by simp) (ent_sub [] [] trivial trivial ⟨.cl hcn2, .refl _, trivial⟩)
    | false =>
      rw [hb] at hq gR
      have gR : R = false := by simpa using gR
      have hnf : bNot false = true := by simp [ee]
      refine goB hX 0 (by conv => lhs; cbv; try simp only [hc, hat, hnf]; cbv; try simp only [hc, hat, hnf]; cbv; try simp only [hc, hat, hnf]; cbv; try simp only [hc, hat, hnf]; cbv) ?_
      refine goB hX 1 (by conv => lhs; cbv; try simp only [hc, hat, hnf]; cbv; try simp only [hc, hat, hnf]; cbv; try simp only [hc, hat, hnf]; cbv; try simp only [hc, hat, hnf]; cbv) ?_
      refine on_pcall (args := [AV.agg [int qCo, AV.isl 8 qCa, int qCv, int qCf, int qCk, int qXk, int qXn, str qXt]]) rfl rfl rfl hq (by simp [AV.closedL, closed_v, closed_agg, hqc]) ?_
      refine goB hX 0 (by conv => lhs; cbv; try simp only [hc, hat, hnf]; cbv; try simp only [hc, hat, hnf]; cbv; try simp only [hc, hat, hnf]; cbv; try simp only [hc, hat, hnf]; cbv) ?_
      refine goA 60 ?_
      refine loopP_ret ?_
      refine goA 60 ?_
      refine fn_ret rfl rfl (.val ?_)
      exact congrArg Value.bool gR.symm
end Go.Am
end
section
set_option linter.unusedVariables false
set_option linter.unusedSimpArgs false
set_option maxRecDepth 20000
namespace Go.Am
open Go.Proofs
abbrev u8 (n : Int) : AV := .val (.int .u8 n)
end Go.Am
end
section
set_option linter.unusedVariables false
set_option linter.unusedSimpArgs false
set_option maxRecDepth 20000
namespace Go.Am
open Go.Proofs
set_option maxHeartbeats 1000000 in
theorem P_eqf (f : FuncId) (a a2 : List Pat) (hlen : a.length < 1048576) (hih : ∀ q ∈ a, ∀ q2, PCall EE f [q.enc, q2.enc] (bool (eqB q q2))) : PCall EE 35 [.isl 14 (mapE Pat.enc a), .isl 14 (mapE Pat.enc a2), .fn f []] (bool (eqB a a2)) := by
  have hcl := Pat.closedI a
  have hcl2 := Pat.closedI a2
  obtain ⟨R, hR⟩ : ∃ R, R = eqB a a2 := ⟨_, rfl⟩
  rw [← hR]
  refine words fun iLt iLe iEq iNe iAdd iSub iMul iQuo iRem iShr iNeg iCvt iMax iMin bNot bEq bNe bAnd bOr sEq sNe sLen sCat sCut sAt lenA lenN iOf natOf atA atN cutA partA dropA catA setA repA putA idxN addN subN minN lenCut rowA hX e_iLt e_iLe e_iEq e_iNe e_iAdd e_iSub e_iMul e_iQuo e_iRem e_iShr e_iNeg e_iCvt e_iMax e_iMin e_bNot e_bEq e_bNe e_bAnd e_bOr e_sEq e_sNe e_sLen e_sCat e_sCut e_sAt e_lenA e_lenN e_iOf e_natOf e_atA e_atN e_cutA e_partA e_dropA e_catA e_setA e_repA e_putA e_idxN e_addN e_subN e_minN e_lenCut e_rowA ee => ?_
  generalize hes : mapE Pat.enc a = es at *
  generalize hes2 : mapE Pat.enc a2 = es2 at *
  have hel : es.length = a.length := by rw [← hes, mapE_len]
  have hel2 : es2.length = a2.length := by rw [← hes2, mapE_len]
  refine fn_body (fn := Tryd.f35) (n := 32) (ac := Trydc35) (rvs := [.t 6]) rfl (by decide) Trydp35 rfl rfl rfl ?_
  by_cases hl8 : a.length = a2.length
  rotate_left
  · have hR : R = false := by rw [hR]; exact eqB_f (fun h => hl8 (by rw [h]))
    have hln : iNe (lenA es) (lenA es2) = true := by simp only [ee]; simp; omega
    refine goB hX 0 (by conv => lhs; cbv; try simp only [hln]; cbv; try simp only [hln]; cbv; try simp only [hln]; cbv; try simp only [hln]; cbv) ?_
    refine goA 60 ?_
    refine fn_ret rfl rfl (.val ?_)
    exact congrArg Value.bool hR.symm
  have hln : iNe (lenA es) (lenA es2) = false := by simp only [ee]; simp; omega
  refine goB hX 0 (by conv => lhs; cbv; try simp only [hln]; cbv; try simp only [hln]; cbv; try simp only [hln]; cbv; try simp only [hln]; cbv) ?_
  refine goA 60 ?_
  refine on_loopP (ι := List Pat × List Pat × List Pat × List Pat × Int) (fun p => ([(17, int p.2.2.2.2), (16, int (lenA es)), (15, .isl 14 es), (1, .isl 14 es2), (2, .fn f [])], [])) (fun p => a = p.1 ++ p.2.1 ∧ a2 = p.2.2.1 ++ p.2.2.2.1 ∧ p.2.2.2.2 = p.1.length ∧ p.1 = p.2.2.1) (fun p => p.2.1.length) ([], a, [], a2, 0) ⟨rfl, rfl, rfl, rfl⟩ ?_ ?_
  · exact (ent_sub [] [] trivial trivial ⟨.refl _, .refl _, .cl hcl, .cl hcl2, .refl _, trivial⟩)
  rintro ⟨d, r, d2, r2, i⟩ ⟨g1, g2, gi, gd⟩
  dsimp only at g1 g2 gi gd ⊢
  subst gd
  cases r with
  | nil =>
    have L1 := len_split g1
    try simp only [List.length_cons, List.length_nil] at L1
    have hc : iLt i (lenA es) = false := lt_f e_iLt e_lenA (by omega)
    have L2 := len_split g2
    try simp only [List.length_cons, List.length_nil] at L2
    have hr2 : r2 = [] := List.length_eq_zero_iff.1 (by omega)
    have hR : R = true := by rw [hR]; exact eqB_t (by rw [g1, g2, hr2])
    refine goB hX 0 (by conv => lhs; cbv; try simp only [hc]; cbv; try simp only [hc]; cbv; try simp only [hc]; cbv; try simp only [hc]; cbv) ?_
    refine goA 60 ?_
    refine loopP_exit ?_
    refine goA 60 ?_
    refine fn_ret rfl rfl (.val ?_)
    exact congrArg Value.bool hR.symm
  | cons q r =>
    have L1 := len_split g1
    try simp only [List.length_cons, List.length_nil] at L1
    have hc : iLt i (lenA es) = true := lt_t e_iLt e_lenA (by omega)
    have hat := el_at e_atA hes g1 gi
    have L2 := len_split g2
    try simp only [List.length_cons, List.length_nil] at L2
    cases r2 with
    | nil => exfalso; simp at L2; omega
    | cons q2 r2 =>
      have hat2 := el_at e_atA hes2 g2 gi
      have hq := hih q (by rw [g1]; simp) q2
      have hqc := Pat.closed q
      have hqc2 := Pat.closed q2
      obtain ⟨qO, qA, qT, qV, qS, qN, qCo, qCa, qCv, qCf, qCk, qXk, qXn, qXt, hx⟩ := Pat.form q
      obtain ⟨q2O, q2A, q2T, q2V, q2S, q2N, q2Co, q2Ca, q2Cv, q2Cf, q2Ck, q2Xk, q2Xn, q2Xt, hx2⟩ := Pat.form q2
      rw [hx, hx2] at hq
      rw [hx] at hat hqc
      rw [hx2] at hat2 hqc2
      have hi2 : iAdd .i64 i 1 = ((d ++ [q]).length : Int) := by rw [List.length_append]; exact inc_w e_iAdd gi (by omega)
      by_cases hqq : q = q2
      · rw [eqB_t hqq] at hq
        have hnt : bNot true = false := by simp [ee]
        refine goB hX 0 (by conv => lhs; cbv; try simp only [hc, hat, hat2, hnt]; cbv; try simp only [hc, hat, hat2, hnt]; cbv; try simp only [hc, hat, hat2, hnt]; cbv; try simp only [hc, hat, hat2, hnt]; cbv) ?_
        refine goB hX 1 (by conv => lhs; cbv; try simp only [hc, hat, hat2, hnt]; cbv; try simp only [hc, hat, hat2, hnt]; cbv; try simp only [hc, hat, hat2, hnt]; cbv; try simp only [hc, hat, hat2, hnt]; cbv) ?_
        refine on_pcallv (args := [AV.agg [int qO, AV.isl 14 qA, int qT, int qV, int qS, int qN, int qCo, AV.isl 8 qCa, int qCv, int qCf, int qCk, int qXk, int qXn, str qXt], AV.agg [int q2O, AV.isl 14 q2A, int q2T, int q2V, int q2S, int q2N, int q2Co, AV.isl 8 q2Ca, int q2Cv, int q2Cf, int q2Ck, int q2Xk, int q2Xn, str q2Xt]]) rfl rfl rfl rfl hq (by simp [AV.closedL, closed_v, closed_agg, hqc, hqc2]) ?_
        refine goB hX 0 (by conv => lhs; cbv; try simp only [hc, hat, hat2, hnt]; cbv; try simp only [hc, hat, hat2, hnt]; cbv; try simp only [hc, hat, hat2, hnt]; cbv; try simp only [hc, hat, hat2, hnt]; cbv) ?_
        refine goA 60 ?_
        refine loopP_next (d ++ [q], r, d ++ [q2], r2, iAdd .i64 i 1) ⟨by simp [g1], by simp [g2], hi2, by simp [hqq]⟩ (by simp) (ent_sub [.gone, .gone] [] ⟨trivial, trivial, trivial⟩ trivial ⟨.refl _, .refl _, .cl hcl, .cl hcl2, .refl _, trivial⟩)
      · rw [eqB_f hqq] at hq
        have hnf : bNot false = true := by simp [ee]
        have hR : R = false := by rw [hR]; exact eqB_f (by rw [g1, g2]; simp [hqq])
        refine goB hX 0 (by conv => lhs; cbv; try simp only [hc, hat, hat2, hnf]; cbv; try simp only [hc, hat, hat2, hnf]; cbv; try simp only [hc, hat, hat2, hnf]; cbv; try simp only [hc, hat, hat2, hnf]; cbv) ?_
        refine goB hX 1 (by conv => lhs; cbv; try simp only [hc, hat, hat2, hnf]; cbv; try simp only [hc, hat, hat2, hnf]; cbv; try simp only [hc, hat, hat2, hnf]; cbv; try simp only [hc, hat, hat2, hnf]; cbv) ?_
        refine on_pcallv (args := [AV.agg [int qO, AV.isl 14 qA, int qT, int qV, int qS, int qN, int qCo, AV.isl 8 qCa, int qCv, int qCf, int qCk, int qXk, int qXn, str qXt], AV.agg [int q2O, AV.isl 14 q2A, int q2T, int q2V, int q2S, int q2N, int q2Co, AV.isl 8 q2Ca, int q2Cv, int q2Cf, int q2Ck, int q2Xk, int q2Xn, str q2Xt]]) rfl rfl rfl rfl hq (by simp [AV.closedL, closed_v, closed_agg, hqc, hqc2]) ?_
        refine goB hX 0 (by conv => lhs; cbv; try simp only [hc, hat, hat2, hnf]; cbv; try simp only [hc, hat, hat2, hnf]; cbv; try simp only [hc, hat, hat2, hnf]; cbv; try simp only [hc, hat, hat2, hnf]; cbv) ?_
        refine goA 60 ?_
        refine loopP_ret ?_
        refine goA 60 ?_
        refine fn_ret rfl rfl (.val ?_)
        exact congrArg Value.bool hR.symm
end Go.Am
end
section
set_option linter.unusedVariables false
set_option linter.unusedSimpArgs false
set_option maxRecDepth 20000
namespace Go.Am
open Go.Proofs
set_option maxHeartbeats 4000000 in
theorem P_pattern_Same : ∀ x y : Pat, x.Sm → PCall EE 17 [x.enc, y.enc] (bool (eqB x y)) := by
  refine Pat.ind ?_
  intro o a t v s n c ih y hs
  obtain ⟨o2, a2, t2, v2, s2, n2, c2⟩ := y
  have hlen := hs.len
  have hih : ∀ q ∈ a, ∀ q2, PCall EE 17 [q.enc, q2.enc] (bool (eqB q q2)) := fun q hq q2 => ih q hq q2 (hs.arg hq)
  have hcs := P_expr_Same c c2 hs.cond
  have hcl := Pat.closedI a
  have hcl2 := Pat.closedI a2
  have hcc := Ex.closed c
  have hcc2 := Ex.closed c2
  obtain ⟨R, hR⟩ : ∃ R, R = eqB (Pat.mk o a t v s n c) (Pat.mk o2 a2 t2 v2 s2 n2 c2) := ⟨_, rfl⟩
  have hRe : o = o2 → t = t2 → v = v2 → s = s2 → n = n2 → c = c2 → R = eqB a a2 := by
    rintro rfl rfl rfl rfl rfl rfl
    rw [hR]
    by_cases h : a = a2
    · rw [h, eqB_t rfl, eqB_t rfl]
    · rw [eqB_f h, eqB_f (by simp [h])]
  have hRf : ¬(o = o2 ∧ t = t2 ∧ v = v2 ∧ s = s2 ∧ n = n2 ∧ c = c2 ∧ a.length = a2.length) → R = false := by
    intro h; rw [hR]; refine eqB_f fun h2 => h ?_
    simp only [Pat.mk.injEq] at h2
    obtain ⟨rfl, rfl, rfl, rfl, rfl, rfl, rfl⟩ := h2
    simp
  obtain ⟨B, hB⟩ : ∃ B, B = eqB c c2 := ⟨_, rfl⟩
  have hB1 : B = true → c = c2 := fun h => eqB_iff.1 (hB ▸ h)
  have hB2 : B = false → c ≠ c2 := fun h hc => by rw [hB, eqB_t hc] at h; cases h
  rw [← hB] at hcs
  rw [← hR]
  obtain ⟨cCo, cC, cv, cf, ck, cxk, cxn, cxt⟩ := c
  obtain ⟨dCo, dC, dv, df, dk, dxk, dxn, dxt⟩ := c2
  rw [Pat.enc_mk, Pat.enc_mk]
  rw [Ex.enc_mk] at hcc hcc2 hcs
  rw [Ex.enc_mk] at hcs
  dsimp only at hcc hcc2 hcs ⊢
  have hcC := Ex.closedI cC
  have hcD := Ex.closedI dC
  clear ih hs hR hB
  have hef := P_eqf 17 a a2 hlen hih
  have hcL := Pat.closedL a
  have hcL2 := Pat.closedL a2
  refine words fun iLt iLe iEq iNe iAdd iSub iMul iQuo iRem iShr iNeg iCvt iMax iMin bNot bEq bNe bAnd bOr sEq sNe sLen sCat sCut sAt lenA lenN iOf natOf atA atN cutA partA dropA catA setA repA putA idxN addN subN minN lenCut rowA hX e_iLt e_iLe e_iEq e_iNe e_iAdd e_iSub e_iMul e_iQuo e_iRem e_iShr e_iNeg e_iCvt e_iMax e_iMin e_bNot e_bEq e_bNe e_bAnd e_bOr e_sEq e_sNe e_sLen e_sCat e_sCut e_sAt e_lenA e_lenN e_iOf e_natOf e_atA e_atN e_cutA e_partA e_dropA e_catA e_setA e_repA e_putA e_idxN e_addN e_subN e_minN e_lenCut e_rowA ee => ?_
  generalize mapE Ex.enc cC = cC' at *
  generalize mapE Ex.enc dC = dC' at *
  generalize hes : mapE Pat.enc a = es at *
  generalize hes2 : mapE Pat.enc a2 = es2 at *
  have hel : es.length = a.length := by rw [← hes, mapE_len]
  have hel2 : es2.length = a2.length := by rw [← hes2, mapE_len]
  have hor : ∀ b, bOr false b = b := by simp [ee]
  have hor2 : ∀ b, bOr b false = b := by simp [ee]
  have hort : ∀ b, bOr true b = true := by simp [ee]
  have hne : ∀ z, iNe z z = false := by simp [ee]
  have hnt : bNot true = false := by simp [ee]
  have hnf : bNot false = true := by simp [ee]
  refine fn_body (fn := Tryd.f17) (n := 51) (ac := Trydc17) (rvs := [.t 4]) rfl (by decide) Trydp17 rfl rfl rfl ?_
  by_cases hd : o = o2 ∧ t = t2 ∧ v = v2 ∧ s = s2 ∧ n = n2
  rotate_left
  · have hR : R = false := hRf (fun h => hd ⟨h.1, h.2.1, h.2.2.1, h.2.2.2.1, h.2.2.2.2.1⟩)
    have hbig : bOr (bOr (bOr (bOr (iNe o o2) (iNe t t2)) (iNe v v2)) (iNe s s2)) (iNe n n2) = true := by
      simp only [ee]
      simp only [Bool.or_eq_true, bne_iff_ne, ne_eq]
      by_cases h1 : o = o2 <;> by_cases h2 : t = t2 <;> by_cases h3 : v = v2 <;> by_cases h4 : s = s2 <;> by_cases h5 : n = n2 <;> simp_all
    refine goB hX 0 (by conv => lhs; cbv; try simp only [hbig, hor, hort]; cbv; try simp only [hbig, hor, hort]; cbv; try simp only [hbig, hor, hort]; cbv; try simp only [hbig, hor, hort]; cbv) ?_
    refine goA 60 ?_
    refine on_gskip rfl rfl ?_
    refine goA 60 ?_
    refine fn_ret rfl rfl (.val ?_)
    exact congrArg Value.bool hR.symm
  obtain ⟨rfl, rfl, rfl, rfl, rfl⟩ := hd
  cases B with
  | false =>
    have hR : R = false := hRf (fun h => hB2 rfl h.2.2.2.2.2.1)
    refine goB hX 0 (by conv => lhs; cbv; try simp only [hne, hor, hort, hnf]; cbv; try simp only [hne, hor, hort, hnf]; cbv; try simp only [hne, hor, hort, hnf]; cbv; try simp only [hne, hor, hort, hnf]; cbv) ?_
    refine goA 60 ?_
    refine on_gpcall (args := [AV.agg [int cCo, AV.isl 8 cC', int cv, int cf, int ck, int cxk, int cxn, str cxt], AV.agg [int dCo, AV.isl 8 dC', int dv, int df, int dk, int dxk, int dxn, str dxt]]) rfl rfl rfl rfl hcs (by simp [AV.closedL, closed_v, closed_agg, hcc, hcc2]) ?_
    refine goB hX 0 (by conv => lhs; cbv; try simp only [hne, hor, hort, hnf]; cbv; try simp only [hne, hor, hort, hnf]; cbv; try simp only [hne, hor, hort, hnf]; cbv; try simp only [hne, hor, hort, hnf]; cbv) ?_
    refine goA 60 ?_
    refine fn_ret rfl rfl (.val ?_)
    exact congrArg Value.bool hR.symm
  | true =>
  have hRe := hRe rfl rfl rfl rfl rfl (hB1 rfl)
  rw [hRe]
  generalize eqB a a2 = R2 at hef
  refine goB hX 0 (by conv => lhs; cbv; try simp only [hne, hor, hort, hnt]; cbv; try simp only [hne, hor, hort, hnt]; cbv; try simp only [hne, hor, hort, hnt]; cbv; try simp only [hne, hor, hort, hnt]; cbv) ?_
  refine goA 60 ?_
  refine on_gpcall (args := [AV.agg [int cCo, AV.isl 8 cC', int cv, int cf, int ck, int cxk, int cxn, str cxt], AV.agg [int dCo, AV.isl 8 dC', int dv, int df, int dk, int dxk, int dxn, str dxt]]) rfl rfl rfl rfl hcs (by simp [AV.closedL, closed_v, closed_agg, hcc, hcc2, hcL, hcL2]) ?_
  refine goB hX 0 (by conv => lhs; cbv; try simp only [hne, hor, hort, hnt]; cbv; try simp only [hne, hor, hort, hnt]; cbv; try simp only [hne, hor, hort, hnt]; cbv; try simp only [hne, hor, hort, hnt]; cbv) ?_
  refine goA 60 ?_
  refine on_pcall (args := [AV.isl 14 es, AV.isl 14 es2, AV.fn 17 []]) rfl rfl rfl hef (by simp [AV.closedL, AV.closed, hcc, hcc2, hcL, hcL2]) ?_
  refine goA 60 ?_
  refine fn_ret rfl rfl (.val ?_)
  rfl
end Go.Am
end
