/- Contracts of the program's functions, for every argument that meets the conditions that each theorem names. -/
import Derived.Test.YtehpdnkachbakaaDoorAm6
import Derived.Test.YtehpdnkachbakaaDoorCt3
import Derived.Test.YtehpdnkachbakaaDoorCt2
import Derived.Test.YtehpdnkachbakaaDoorAm5
section
set_option maxHeartbeats 16000000
set_option maxRecDepth 100000
namespace Go.Am
open Go.Proofs
noncomputable def nrenE (to : List Int) (q : Pat) : Int :=
 if typedF q.op = true ∧ (to.length : Int) ≤ q.var then 6
 else if typedF q.op = true ∧ (to.getD q.var.toNat 0 < 0 ∨ 16 ≤ to.getD q.var.toNat 0) then 2
 else if condF q.op = true then q.cond.renErr to else 0
noncomputable def Pat.renErr (to : List Int) (p : Pat) : Int := if p.chkR ≠ 0 then p.chkR else firstE (nrenE to) p.nodes
noncomputable def Pat.rename (to : List Int) (p : Pat) : Pat := if p.renErr to = 0 then p.ren to else Pat0
theorem chkR_nodes {p : Pat} (h : p.chkR = 0) : ∀ q ∈ p.nodes, q.nodeE = 0 := by
 unfold Pat.chkR at h
 split at h
 · cases h
 · split at h
   · cases h
   · exact firstE_zero h
theorem nodeE_var {q : Pat} (h : q.nodeE = 0) : typedF q.op = true → 0 ≤ q.var ∧ q.var ≤ 15 := by
 intro ht
 unfold Pat.nodeE at h
 by_cases h1 : q.op < 0 ∨ 11 ≤ q.op
 · rw [if_pos h1] at h; cases h
 rw [if_neg h1] at h
 by_cases h2 : (q.args.length : Int) < leastF q.op ∨ mostF q.op < q.args.length
 · rw [if_pos h2] at h; cases h
 rw [if_neg h2] at h
 by_cases h3 : (typedF q.op = true ∧ (q.ty < 0 ∨ 15 < q.ty ∨ q.var < 0 ∨ 15 < q.var)) ∨ (scopeF q.op = true ∧ (q.scope < 0 ∨ 63 < q.scope)) ∨ (spanF q.op = true ∧ (q.span < 0 ∨ 1099511627776 < q.span))
 · rw [if_pos h3] at h; cases h
 · exact ⟨Int.not_lt.1 fun hh => h3 (.inl ⟨ht, .inr (.inr (.inl hh))⟩), Int.not_lt.1 fun hh => h3 (.inl ⟨ht, .inr (.inr (.inr hh))⟩)⟩
theorem P_pattern_Rename (to : List Int) (p : Pat) (hs : p.Sm) (_htl : to.length < 1048577) : PCall EE 24 [p.enc, .isl 1 (mapE int to)] (.tup [(p.rename to).enc, int (p.renErr to)]) := by
 have h1 := P_CheckRest p hs
 have hsn := hs.node
 have h2 := fun (hk : p.chkR = 0) (hr : ∀ q ∈ p.nodes, nrenE to q = 0) => P_renamed to p hs fun q hq => ⟨(nodeE_op (chkR_nodes hk q hq)).1, (nodeE_op (chkR_nodes hk q hq)).2, fun ht => ⟨(nodeE_var (chkR_nodes hk q hq) ht).1, by
  have := hr q hq
  unfold nrenE at this
  by_cases hl : (to.length : Int) ≤ q.var
  · rw [if_pos ⟨ht, hl⟩] at this; cases this
  · omega⟩⟩
 have hnq := fun (hk : p.chkR = 0) => chkR_nodes hk
 have hcl := Pat.closed p
 have hct := closedI_int to
 have hcts := closedL_int to
 have hctL : AV.closedL [.isl 1 (mapE int to)] = true := closed1 hct
 obtain ⟨R, hR⟩ : ∃ R, R = p.rename to := ⟨_, rfl⟩
 obtain ⟨R2, hR2⟩ : ∃ R, R = p.renErr to := ⟨_, rfl⟩
 rw [← hR, ← hR2]
 unfold Pat.rename at hR
 rw [← hR2] at hR
 unfold Pat.renErr at hR2
 generalize p.chkR = rn at *
 have hec := Pat.closed (p.ren to)
 generalize p.ren to = er at *
 obtain ⟨pcs, hpe⟩ := Pat.some_cells p
 have hpre := P_preorder p hpe
 obtain ⟨pO, pA, pT, pV, pS, pN, pCo, pCa, pCv, pCf, pCk, pXk, pXn, pXt, hx⟩ := Pat.form p
 rw [hx] at h1 h2 hcl hpe ⊢
 injection hpe with hpe
 subst hpe
 have hip : (AV.fn 61 [.iptr [int pO, .isl 14 pA, int pT, int pV, int pS, int pN, int pCo, .isl 8 pCa, int pCv, int pCf, int pCk, int pXk, int pXn, str pXt]]).closed = true := by simp only [closed_fn, AV.closedL, closed_iptr, Bool.and_true]; exact hcl
 have hpA : (AV.isl 14 pA).closed = true := by have := hcl; simp [AV.closed, AV.closedL] at this ⊢; exact this.1
 have hpCa : (AV.isl 8 pCa).closed = true := by have := hcl; simp [AV.closed, AV.closedL] at this ⊢; exact this.2
 refine wordsN ?_; unhygienic intros
 generalize hts : mapE int to = ts at *
 have htl2 : ts.length = to.length := by rw [← hts, mapE_len]
 refine fn_body (fn := Tryd.f24) (n := 69) (ac := Trydc24) (rvs := [.cell 4 14 true, .cell 5 1 false]) rfl (by decide) Trydp24 rfl rfl rfl ?_
 by_cases g1 : rn = 0
 rotate_left
 · have k1 : iNe rn 0 = true := by simp only [ee]; simpa using g1
   rw [if_pos g1] at hR2
   rw [if_neg (by omega)] at hR
   rw [hR, hR2, Pat0.enc_eq]
   refine goA 60 ?_
   refine oPA h1 ?_
   refine goB hX 0 (by conv => lhs; cbv; try simp only [k1]; cbv; try simp only [k1]; cbv; try simp only [k1]; cbv; try simp only [k1]; cbv) ?_
   refine goA 60 ?_
   refine fn_ret rfl rfl ?_
   exact ⟨[.gone, .gone, .gone, .gone], ⟨trivial, trivial, trivial, trivial, trivial⟩, .tup' ⟨.agg' ⟨.refl _, .nilI _, .refl _, .refl _, .refl _, .refl _, .refl _, .nilI _, .refl _, .refl _, .refl _, .refl _, .refl _, .refl _, trivial⟩, .refl _, trivial⟩⟩
 have k1 : iNe rn 0 = false := by simp only [ee]; simpa using g1
 rw [if_neg (by simpa using g1)] at hR2
 have h2 := h2 g1
 have hnq := hnq g1
 refine goA 60 ?_
 refine oPA h1 ?_
 refine goB hX 0 (by conv => lhs; cbv; try simp only [k1]; cbv; try simp only [k1]; cbv; try simp only [k1]; cbv; try simp only [k1]; cbv) ?_
 refine goA 60 ?_
 refine oPA hpre ?_
 refine goA 60 ?_
 refine on_ent (F' := [(18, .fn 61 [.iptr [int pO, .isl 14 pA, int pT, int pV, int pS, int pN, int pCo, .isl 8 pCa, int pCv, int pCf, int pCk, int pXk, int pXn, str pXt]]), (2, .ptr 0 0), (3, .ptr 1 0), (4, .ptr 2 0), (5, .ptr 3 0)]) (H' := [.cells [int pO, .isl 14 pA, int pT, int pV, int pS, int pN, int pCo, .isl 8 pCa, int pCv, int pCf, int pCk, int pXk, int pXn, str pXt], .cells [.isl 1 ts], .cells [int 0, .val (.slice none 0 0), int 0, int 0, int 0, int 0, int 0, .val (.slice none 0 0), int 0, int 0, int 0, int 0, int 0, str ⟨#[]⟩], .cells [int 0], .dead, .dead, .dead]) ?_ ?_
 · exact (ent_sub [.to 0, .to 1, .to 2, .to 3] [some 0, some 1, some 2, some 3, none, none, none] ⟨⟨by simp, rfl⟩, ⟨by simp, rfl⟩, ⟨by simp, rfl⟩, ⟨by simp, rfl⟩, trivial⟩ ⟨osrc_cells (b := 0) rfl rfl rfl ⟨.refl _, .cl hpA, .refl _, .refl _, .refl _, .refl _, .refl _, .cl hpCa, .refl _, .refl _, .refl _, .refl _, .refl _, .refl _, trivial⟩, osrc_cells (b := 1) rfl rfl rfl ⟨.cl hct, trivial⟩, osrc_cells (b := 2) rfl rfl rfl ⟨.refl _, .refl _, .refl _, .refl _, .refl _, .refl _, .refl _, .refl _, .refl _, .refl _, .refl _, .refl _, .refl _, .refl _, trivial⟩, osrc_cells (b := 3) rfl rfl rfl ⟨.refl _, trivial⟩, .dead, .dead, .dead, trivial⟩ ⟨.cl hip, .refl _, .refl _, .refl _, .refl _, trivial⟩)
 refine on_preorder (fun _ => .cells [int pO, .isl 14 pA, int pT, int pV, int pS, int pN, int pCo, .isl 8 pCa, int pCv, int pCf, int pCk, int pXk, int pXn, str pXt]) (fun _ => .cells [.isl 1 ts]) (fun _ => .cells [int 0, .val (.slice none 0 0), int 0, int 0, int 0, int 0, int 0, .val (.slice none 0 0), int 0, int 0, int 0, int 0, int 0, str ⟨#[]⟩]) (fun _ => .cells [int 0]) (fun _ => .dead) (fun _ => .dead) (fun _ => .dead) (fun _ => .dead) (fun _ => .dead) (fun d => ∀ q ∈ d, nrenE to q = 0) p hs hx rfl rfl ⟨.cl hip, .ptr (by decide), .ptr (by decide), .ptr (by decide), .ptr (by decide), trivial⟩ (fun q hq => by cases hq) ?_ (fun _ => .cells ⟨.cl rfl, .cl hpA, .cl rfl, .cl rfl, .cl rfl, .cl rfl, .cl rfl, .cl hpCa, .cl rfl, .cl rfl, .cl rfl, .cl rfl, .cl rfl, .cl rfl, trivial⟩) (fun _ => .cells ⟨.cl hct, trivial⟩) (fun _ => .cells ⟨.cl rfl, .cl rfl, .cl rfl, .cl rfl, .cl rfl, .cl rfl, .cl rfl, .cl rfl, .cl rfl, .cl rfl, .cl rfl, .cl rfl, .cl rfl, .cl rfl, trivial⟩) (fun _ => .cells ⟨.cl rfl, trivial⟩) (fun _ => .dead) (fun _ => .dead) (fun _ => .dead) (fun _ => .dead) (fun _ => .dead) (fun hall => ?_) (fun d q r hd hok => ?_)
 · exact (hent_sub [.to 0, .to 1, .to 2, .to 3, .gone, .gone, .gone, .to 7] [some 0, some 1, some 2, some 3, some 4, some 5, some 6, some 7, none, none] rfl ⟨rfl, rfl, rfl, rfl, rfl, rfl, rfl, rfl, trivial⟩ (by simp) (by simp) ⟨⟨by simp, rfl⟩, ⟨by simp, rfl⟩, ⟨by simp, rfl⟩, ⟨by simp, rfl⟩, trivial, trivial, trivial, ⟨by simp, rfl⟩, trivial⟩ ⟨osrc_cells (b := 0) rfl rfl rfl ⟨.refl _, .cl hpA, .refl _, .refl _, .refl _, .refl _, .refl _, .cl hpCa, .refl _, .refl _, .refl _, .refl _, .refl _, .refl _, trivial⟩, osrc_cells (b := 1) rfl rfl rfl ⟨.cl hct, trivial⟩, osrc_cells (b := 2) rfl rfl rfl ⟨.refl _, .refl _, .refl _, .refl _, .refl _, .refl _, .refl _, .refl _, .refl _, .refl _, .refl _, .refl _, .refl _, .refl _, trivial⟩, osrc_cells (b := 3) rfl rfl rfl ⟨.refl _, trivial⟩, .dead, .dead, .dead, .some 7 _ _ rfl rfl rfl (.loop _ _ _ _ _ _ _ _ ⟨.cl hip, .refl _, .refl _, .refl _, .refl _, trivial⟩), .dead, .dead, trivial⟩)
 · have hz : firstE (nrenE to) p.nodes = 0 := firstE_ok hall
   rw [if_pos (by omega)] at hR
   have h2 := h2 hall
   rw [hR, hR2, hz]
   obtain ⟨erO, erA, erT, erV, erS, erN, erCo, erCa, erCv, erCf, erCk, erXk, erXn, erXt, hxr⟩ := Pat.form er
   rw [hxr] at h2 hec ⊢
   refine goA 60 ?_
   refine oPA h2 ?_
   refine goA 60 ?_
   refine fn_ret rfl rfl ?_
   exact ⟨[.gone, .gone, .gone, .gone, .gone, .gone, .gone, .gone, .gone, .gone], ⟨trivial, trivial, trivial, trivial, trivial, trivial, trivial, trivial, trivial, trivial, trivial⟩, .tup' ⟨.cl hec, .refl _, trivial⟩⟩
 · have hqs := hsn q (by rw [hd]; simp)
   have hrn := P_expr_Rename to q.cond hqs.cond'
   rw [hts] at hrn
   have hqn := hnq q (by rw [hd]; simp)
   have hqo := nodeE_op hqn
   have hqv := nodeE_var hqn
   have hrow := shape_row hqo.1 hqo.2
   have hqc := Pat.closed q
   have hqcc := Ex.closed q.cond
   have hfe := fun h => firstE_at (F := nrenE to) (r := r) hok (q := q) h
   rw [← hd] at hfe
   have hok2 : nrenE to q = 0 → ∀ q' ∈ d ++ [q], nrenE to q' = 0 := fun h q' hq' => by
    rcases List.mem_append.1 hq' with h' | h'
    · exact hok q' h'
    · simp at h'; rw [h']; exact h
   have hRf : nrenE to q ≠ 0 → R = Pat0 ∧ R2 = nrenE to q := fun h => by
    rw [hfe h] at hR2
    exact ⟨by rw [hR, if_neg (by rw [hR2]; exact h)], hR2⟩
   have n6 : typedF q.op = true → (to.length : Int) ≤ q.var → nrenE to q = 6 := fun a b => by rw [nrenE, if_pos ⟨a, b⟩]
   have n2 : typedF q.op = true → ¬ (to.length : Int) ≤ q.var → (to.getD q.var.toNat 0 < 0 ∨ 16 ≤ to.getD q.var.toNat 0) → nrenE to q = 2 := fun a b c => by rw [nrenE, if_neg (fun h => b h.2), if_pos ⟨a, c⟩]
   have nc : (typedF q.op = true → ¬ (to.length : Int) ≤ q.var ∧ ¬ (to.getD q.var.toNat 0 < 0 ∨ 16 ≤ to.getD q.var.toNat 0)) → condF q.op = true → nrenE to q = q.cond.renErr to := fun a c => by rw [nrenE, if_neg (fun h => (a h.1).1 h.2), if_neg (fun h => (a h.1).2 h.2), if_pos c]
   have n0 : (typedF q.op = true → ¬ (to.length : Int) ≤ q.var ∧ ¬ (to.getD q.var.toNat 0 < 0 ∨ 16 ≤ to.getD q.var.toNat 0)) → condF q.op = false → nrenE to q = 0 := fun a c => by rw [nrenE, if_neg (fun h => (a h.1).1 h.2), if_neg (fun h => (a h.1).2 h.2), if_neg (by simp [c])]
   have hrw : rowA (Classical.choice tabBox_ne).g q.op 6 = [int (leastF q.op), int (mostF q.op), bool (typedF q.op), bool (condF q.op), bool (scopeF q.op), bool (spanF q.op)] := by rw [e_rowA]; exact hrow
   have hat : typedF q.op = true → ¬ (to.length : Int) ≤ q.var → atA ts q.var = int (to.getD q.var.toNat 0) := fun a b => by
    have := hqv a
    simp only [ee]
    rw [← hts, mapE_eq, List.getD_eq_getElem?_getD, List.getElem?_map, List.getD_eq_getElem?_getD, List.getElem?_eq_getElem (by omega)]; rfl
   generalize leastF q.op = lo at *
   generalize mostF q.op = mo at *
   generalize typedF q.op = ty at *
   generalize condF q.op = cd at *
   generalize scopeF q.op = sc at *
   generalize spanF q.op = sp at *
   generalize q.cond.renErr to = ce at *
   generalize nrenE to q = ne at *
   generalize hqr : q.cond.rename to = qr at *
   generalize to.getD q.var.toNat 0 = tv at *
   obtain ⟨qO, qA, qT, qV, qS, qN, qCo, qCa, qCv, qCf, qCk, qXk, qXn, qXt, hx2, hx2c, hqO, hqA, hqT, hqV, hqS, hqN⟩ := Pat.form2 q
   obtain ⟨qrO, qrA, qrV, qrF, qrK, qrXk, qrXn, qrXt, hxr⟩ := Ex.form qr
   rw [hx2] at hqc ⊢
   rw [hx2c] at hrn hqcc
   rw [hxr] at hrn
   simp only [← hqO, ← hqV] at *
   clear hrow hx2 hx2c hqO hqA hqT hqV hqS hqN hfe hnq h2 hqr hxr hqn
   have hnt : ∀ b, bAnd false b = false := by simp [ee]
   have fin : ∀ z : Int, z ≠ 0 → ne = z → R = Pat0 ∧ R2 = z := fun z hz e => by subst e; exact hRf hz
   cases ty with
   | false =>
    cases cd with
    | false =>
     have e0 := n0 (fun h => by cases h) rfl
     refine goA 60 ?_
     refine rnd_assign rfl ?_
     refine goB hX 0 (by conv => lhs; cbv; try simp only [hrw, hnt]; cbv; try simp only [hrw, hnt]; cbv; try simp only [hrw, hnt]; cbv; try simp only [hrw, hnt]; cbv) ?_
     refine goA 60 ?_
     refine on_gskip rfl rfl ?_
     refine goA 60 ?_
     exact rnd_next rfl (hok2 e0) (hent_sub [.to 0, .to 1, .to 2, .to 3, .gone, .gone, .gone, .to 7, .gone, .gone, .gone, .gone] [some 0, some 1, some 2, some 3, some 4, some 5, some 6, some 7, none, none] rfl ⟨rfl, rfl, rfl, rfl, rfl, rfl, rfl, rfl, trivial⟩ (by simp) (by simp) ⟨⟨by simp, rfl⟩, ⟨by simp, rfl⟩, ⟨by simp, rfl⟩, ⟨by simp, rfl⟩, trivial, trivial, trivial, ⟨by simp, rfl⟩, trivial, trivial, trivial, trivial, trivial⟩ ⟨osrc_cells (b := 0) rfl rfl rfl ⟨.refl _, .cl hpA, .refl _, .refl _, .refl _, .refl _, .refl _, .cl hpCa, .refl _, .refl _, .refl _, .refl _, .refl _, .refl _, trivial⟩, osrc_cells (b := 1) rfl rfl rfl ⟨.cl hct, trivial⟩, osrc_cells (b := 2) rfl rfl rfl ⟨.refl _, .refl _, .refl _, .refl _, .refl _, .refl _, .refl _, .refl _, .refl _, .refl _, .refl _, .refl _, .refl _, .refl _, trivial⟩, osrc_cells (b := 3) rfl rfl rfl ⟨.refl _, trivial⟩, .dead, .dead, .dead, .some 7 _ _ rfl rfl rfl (.loop _ _ _ _ _ _ _ _ ⟨.cl hip, .refl _, .refl _, .refl _, .refl _, trivial⟩), .dead, .dead, trivial⟩)
    | true =>
     have e0 := nc (fun h => by cases h) rfl
     by_cases hce : ce = 0
     · have k2 : iNe ce 0 = false := by simp only [ee]; simpa using hce
       refine goA 60 ?_
       refine rnd_assign rfl ?_
       refine goB hX 0 (by conv => lhs; cbv; try simp only [hrw, hnt, k2]; cbv; try simp only [hrw, hnt, k2]; cbv; try simp only [hrw, hnt, k2]; cbv; try simp only [hrw, hnt, k2]; cbv) ?_
       refine goA 60 ?_
       refine on_gskip rfl rfl ?_
       refine goA 60 ?_
       refine oPA hrn ?_
       refine goB hX 0 (by conv => lhs; cbv; try simp only [hrw, hnt, k2]; cbv; try simp only [hrw, hnt, k2]; cbv; try simp only [hrw, hnt, k2]; cbv; try simp only [hrw, hnt, k2]; cbv) ?_
       refine goA 60 ?_
       exact rnd_next rfl (hok2 (e0.trans hce)) (hent_sub [.to 0, .to 1, .to 2, .to 3, .gone, .gone, .gone, .to 7, .gone, .gone, .gone, .gone, .gone] [some 0, some 1, some 2, some 3, some 4, some 5, some 6, some 7, none, none] rfl ⟨rfl, rfl, rfl, rfl, rfl, rfl, rfl, rfl, trivial⟩ (by simp) (by simp) ⟨⟨by simp, rfl⟩, ⟨by simp, rfl⟩, ⟨by simp, rfl⟩, ⟨by simp, rfl⟩, trivial, trivial, trivial, ⟨by simp, rfl⟩, trivial, trivial, trivial, trivial, trivial, trivial⟩ ⟨osrc_cells (b := 0) rfl rfl rfl ⟨.refl _, .cl hpA, .refl _, .refl _, .refl _, .refl _, .refl _, .cl hpCa, .refl _, .refl _, .refl _, .refl _, .refl _, .refl _, trivial⟩, osrc_cells (b := 1) rfl rfl rfl ⟨.cl hct, trivial⟩, osrc_cells (b := 2) rfl rfl rfl ⟨.refl _, .refl _, .refl _, .refl _, .refl _, .refl _, .refl _, .refl _, .refl _, .refl _, .refl _, .refl _, .refl _, .refl _, trivial⟩, osrc_cells (b := 3) rfl rfl rfl ⟨.refl _, trivial⟩, .dead, .dead, .dead, .some 7 _ _ rfl rfl rfl (.loop _ _ _ _ _ _ _ _ ⟨.cl hip, .refl _, .refl _, .refl _, .refl _, trivial⟩), .dead, .dead, trivial⟩)
     · have k2 : iNe ce 0 = true := by simp only [ee]; simpa using hce
       obtain ⟨r1, r2⟩ := fin ce hce e0
       rw [r1, r2, Pat0.enc_eq]
       refine goA 60 ?_
       refine rnd_assign rfl ?_
       refine goB hX 0 (by conv => lhs; cbv; try simp only [hrw, hnt, k2]; cbv; try simp only [hrw, hnt, k2]; cbv; try simp only [hrw, hnt, k2]; cbv; try simp only [hrw, hnt, k2]; cbv) ?_
       refine goA 60 ?_
       refine on_gskip rfl rfl ?_
       refine goA 60 ?_
       refine oPA hrn ?_
       refine goB hX 0 (by conv => lhs; cbv; try simp only [hrw, hnt, k2]; cbv; try simp only [hrw, hnt, k2]; cbv; try simp only [hrw, hnt, k2]; cbv; try simp only [hrw, hnt, k2]; cbv) ?_
       refine goA 60 ?_
       refine rnd_stop (by simp) rfl ?_
       refine goA 60 ?_
       refine fn_ret rfl rfl ?_
       exact ⟨[.gone, .gone, .gone, .gone, .gone, .gone, .gone, .gone, .gone, .gone, .gone, .gone, .gone], ⟨trivial, trivial, trivial, trivial, trivial, trivial, trivial, trivial, trivial, trivial, trivial, trivial, trivial, trivial⟩, .tup' ⟨.agg' ⟨.refl _, .nilI _, .refl _, .refl _, .refl _, .refl _, .refl _, .nilI _, .refl _, .refl _, .refl _, .refl _, .refl _, .refl _, trivial⟩, .refl _, trivial⟩⟩
   | true =>
    have hv := hqv rfl
    by_cases hl : (to.length : Int) ≤ qV
    · have k3 : bAnd true (iLe (lenA ts) qV) = true := by simp only [ee]; simp; omega
      obtain ⟨r1, r2⟩ := fin 6 (by decide) (n6 rfl hl)
      rw [r1, r2, Pat0.enc_eq]
      refine goA 60 ?_
      refine rnd_assign rfl ?_
      refine goB hX 0 (by conv => lhs; cbv; try simp only [hrw, k3]; cbv; try simp only [hrw, k3]; cbv; try simp only [hrw, k3]; cbv; try simp only [hrw, k3]; cbv) ?_
      refine goA 60 ?_
      refine rnd_stop (by simp) rfl ?_
      refine goA 60 ?_
      refine fn_ret rfl rfl ?_
      exact ⟨[.gone, .gone, .gone, .gone, .gone, .gone, .gone, .gone, .gone, .gone, .gone, .gone], ⟨trivial, trivial, trivial, trivial, trivial, trivial, trivial, trivial, trivial, trivial, trivial, trivial, trivial⟩, .tup' ⟨.agg' ⟨.refl _, .nilI _, .refl _, .refl _, .refl _, .refl _, .refl _, .nilI _, .refl _, .refl _, .refl _, .refl _, .refl _, .refl _, trivial⟩, .refl _, trivial⟩⟩
    have k3 : iLe (lenA ts) qV = false := by simp only [ee]; simp; omega
    have k4 : ∀ b, bAnd true b = b := by simp [ee]
    have hat := hat rfl hl
    by_cases ht : tv < 0 ∨ 16 ≤ tv
    · have k5 : bOr (iLt tv 0) (iLe 16 tv) = true := by simp only [ee]; simpa using ht
      obtain ⟨r1, r2⟩ := fin 2 (by decide) (n2 rfl hl ht)
      rw [r1, r2, Pat0.enc_eq]
      refine goA 60 ?_
      refine rnd_assign rfl ?_
      refine goB hX 0 (by conv => lhs; cbv; try simp only [hrw, k3, k4, hat, k5]; cbv; try simp only [hrw, k3, k4, hat, k5]; cbv; try simp only [hrw, k3, k4, hat, k5]; cbv; try simp only [hrw, k3, k4, hat, k5]; cbv) ?_
      refine goB hX 1 (by conv => lhs; cbv; try simp only [hrw, k3, k4, hat, k5]; cbv; try simp only [hrw, k3, k4, hat, k5]; cbv; try simp only [hrw, k3, k4, hat, k5]; cbv; try simp only [hrw, k3, k4, hat, k5]; cbv) ?_
      refine goB hX 1 (by conv => lhs; cbv; try simp only [hrw, k3, k4, hat, k5]; cbv; try simp only [hrw, k3, k4, hat, k5]; cbv; try simp only [hrw, k3, k4, hat, k5]; cbv; try simp only [hrw, k3, k4, hat, k5]; cbv) ?_
      refine goB hX 1 (by conv => lhs; cbv; try simp only [hrw, k3, k4, hat, k5]; cbv; try simp only [hrw, k3, k4, hat, k5]; cbv; try simp only [hrw, k3, k4, hat, k5]; cbv; try simp only [hrw, k3, k4, hat, k5]; cbv) ?_
      refine goB hX 1 (by conv => lhs; cbv; try simp only [hrw, k3, k4, hat, k5]; cbv; try simp only [hrw, k3, k4, hat, k5]; cbv; try simp only [hrw, k3, k4, hat, k5]; cbv; try simp only [hrw, k3, k4, hat, k5]; cbv) ?_
      refine goB hX 1 (by conv => lhs; cbv; try simp only [hrw, k3, k4, hat, k5]; cbv; try simp only [hrw, k3, k4, hat, k5]; cbv; try simp only [hrw, k3, k4, hat, k5]; cbv; try simp only [hrw, k3, k4, hat, k5]; cbv) ?_
      refine goB hX 0 (by conv => lhs; cbv; try simp only [hrw, k3, k4, hat, k5]; cbv; try simp only [hrw, k3, k4, hat, k5]; cbv; try simp only [hrw, k3, k4, hat, k5]; cbv; try simp only [hrw, k3, k4, hat, k5]; cbv) ?_
      refine goB hX 1 (by conv => lhs; cbv; try simp only [hrw, k3, k4, hat, k5]; cbv; try simp only [hrw, k3, k4, hat, k5]; cbv; try simp only [hrw, k3, k4, hat, k5]; cbv; try simp only [hrw, k3, k4, hat, k5]; cbv) ?_
      refine goB hX 1 (by conv => lhs; cbv; try simp only [hrw, k3, k4, hat, k5]; cbv; try simp only [hrw, k3, k4, hat, k5]; cbv; try simp only [hrw, k3, k4, hat, k5]; cbv; try simp only [hrw, k3, k4, hat, k5]; cbv) ?_
      refine goB hX 1 (by conv => lhs; cbv; try simp only [hrw, k3, k4, hat, k5]; cbv; try simp only [hrw, k3, k4, hat, k5]; cbv; try simp only [hrw, k3, k4, hat, k5]; cbv; try simp only [hrw, k3, k4, hat, k5]; cbv) ?_
      refine nsB hX (by conv => lhs; cbv; try simp only [hrw, k3, k4, hat, k5]; cbv; try simp only [hrw, k3, k4, hat, k5]; cbv; try simp only [hrw, k3, k4, hat, k5]; cbv; try simp only [hrw, k3, k4, hat, k5]; cbv) ?_
      refine goA 60 ?_
      refine rnd_stop (by simp) rfl ?_
      refine goA 60 ?_
      refine fn_ret rfl rfl ?_
      exact ⟨[.gone, .gone, .gone, .gone, .gone, .gone, .gone, .gone, .gone, .gone, .gone, .gone], ⟨trivial, trivial, trivial, trivial, trivial, trivial, trivial, trivial, trivial, trivial, trivial, trivial, trivial⟩, .tup' ⟨.agg' ⟨.refl _, .nilI _, .refl _, .refl _, .refl _, .refl _, .refl _, .nilI _, .refl _, .refl _, .refl _, .refl _, .refl _, .refl _, trivial⟩, .refl _, trivial⟩⟩
    have k5 : bOr (iLt tv 0) (iLe 16 tv) = false := by simp only [ee]; simp; omega
    cases cd with
    | false =>
     have e0 := n0 (fun _ => ⟨hl, ht⟩) rfl
     refine goA 60 ?_
     refine rnd_assign rfl ?_
     refine goB hX 0 (by conv => lhs; cbv; try simp only [hrw, k3, k4, hat, k5]; cbv; try simp only [hrw, k3, k4, hat, k5]; cbv; try simp only [hrw, k3, k4, hat, k5]; cbv; try simp only [hrw, k3, k4, hat, k5]; cbv) ?_
     refine goB hX 1 (by conv => lhs; cbv; try simp only [hrw, k3, k4, hat, k5]; cbv; try simp only [hrw, k3, k4, hat, k5]; cbv; try simp only [hrw, k3, k4, hat, k5]; cbv; try simp only [hrw, k3, k4, hat, k5]; cbv) ?_
     refine goB hX 1 (by conv => lhs; cbv; try simp only [hrw, k3, k4, hat, k5]; cbv; try simp only [hrw, k3, k4, hat, k5]; cbv; try simp only [hrw, k3, k4, hat, k5]; cbv; try simp only [hrw, k3, k4, hat, k5]; cbv) ?_
     refine goB hX 1 (by conv => lhs; cbv; try simp only [hrw, k3, k4, hat, k5]; cbv; try simp only [hrw, k3, k4, hat, k5]; cbv; try simp only [hrw, k3, k4, hat, k5]; cbv; try simp only [hrw, k3, k4, hat, k5]; cbv) ?_
     refine goB hX 1 (by conv => lhs; cbv; try simp only [hrw, k3, k4, hat, k5]; cbv; try simp only [hrw, k3, k4, hat, k5]; cbv; try simp only [hrw, k3, k4, hat, k5]; cbv; try simp only [hrw, k3, k4, hat, k5]; cbv) ?_
     refine goB hX 1 (by conv => lhs; cbv; try simp only [hrw, k3, k4, hat, k5]; cbv; try simp only [hrw, k3, k4, hat, k5]; cbv; try simp only [hrw, k3, k4, hat, k5]; cbv; try simp only [hrw, k3, k4, hat, k5]; cbv) ?_
     refine goB hX 0 (by conv => lhs; cbv; try simp only [hrw, k3, k4, hat, k5]; cbv; try simp only [hrw, k3, k4, hat, k5]; cbv; try simp only [hrw, k3, k4, hat, k5]; cbv; try simp only [hrw, k3, k4, hat, k5]; cbv) ?_
     refine goB hX 1 (by conv => lhs; cbv; try simp only [hrw, k3, k4, hat, k5]; cbv; try simp only [hrw, k3, k4, hat, k5]; cbv; try simp only [hrw, k3, k4, hat, k5]; cbv; try simp only [hrw, k3, k4, hat, k5]; cbv) ?_
     refine goB hX 1 (by conv => lhs; cbv; try simp only [hrw, k3, k4, hat, k5]; cbv; try simp only [hrw, k3, k4, hat, k5]; cbv; try simp only [hrw, k3, k4, hat, k5]; cbv; try simp only [hrw, k3, k4, hat, k5]; cbv) ?_
     refine goB hX 1 (by conv => lhs; cbv; try simp only [hrw, k3, k4, hat, k5]; cbv; try simp only [hrw, k3, k4, hat, k5]; cbv; try simp only [hrw, k3, k4, hat, k5]; cbv; try simp only [hrw, k3, k4, hat, k5]; cbv) ?_
     refine nsB hX (by conv => lhs; cbv; try simp only [hrw, k3, k4, hat, k5]; cbv; try simp only [hrw, k3, k4, hat, k5]; cbv; try simp only [hrw, k3, k4, hat, k5]; cbv; try simp only [hrw, k3, k4, hat, k5]; cbv) ?_
     refine goA 60 ?_
     exact rnd_next rfl (hok2 e0) (hent_sub [.to 0, .to 1, .to 2, .to 3, .gone, .gone, .gone, .to 7, .gone, .gone, .gone, .gone] [some 0, some 1, some 2, some 3, some 4, some 5, some 6, some 7, none, none] rfl ⟨rfl, rfl, rfl, rfl, rfl, rfl, rfl, rfl, trivial⟩ (by simp) (by simp) ⟨⟨by simp, rfl⟩, ⟨by simp, rfl⟩, ⟨by simp, rfl⟩, ⟨by simp, rfl⟩, trivial, trivial, trivial, ⟨by simp, rfl⟩, trivial, trivial, trivial, trivial, trivial⟩ ⟨osrc_cells (b := 0) rfl rfl rfl ⟨.refl _, .cl hpA, .refl _, .refl _, .refl _, .refl _, .refl _, .cl hpCa, .refl _, .refl _, .refl _, .refl _, .refl _, .refl _, trivial⟩, osrc_cells (b := 1) rfl rfl rfl ⟨.cl hct, trivial⟩, osrc_cells (b := 2) rfl rfl rfl ⟨.refl _, .refl _, .refl _, .refl _, .refl _, .refl _, .refl _, .refl _, .refl _, .refl _, .refl _, .refl _, .refl _, .refl _, trivial⟩, osrc_cells (b := 3) rfl rfl rfl ⟨.refl _, trivial⟩, .dead, .dead, .dead, .some 7 _ _ rfl rfl rfl (.loop _ _ _ _ _ _ _ _ ⟨.cl hip, .refl _, .refl _, .refl _, .refl _, trivial⟩), .dead, .dead, trivial⟩)
    | true =>
     have e0 := nc (fun _ => ⟨hl, ht⟩) rfl
     by_cases hce : ce = 0
     · have k2 : iNe ce 0 = false := by simp only [ee]; simpa using hce
       refine goA 60 ?_
       refine rnd_assign rfl ?_
       refine goB hX 0 (by conv => lhs; cbv; try simp only [hrw, k3, k4, hat, k5, k2]; cbv; try simp only [hrw, k3, k4, hat, k5, k2]; cbv; try simp only [hrw, k3, k4, hat, k5, k2]; cbv; try simp only [hrw, k3, k4, hat, k5, k2]; cbv) ?_
       refine goB hX 1 (by conv => lhs; cbv; try simp only [hrw, k3, k4, hat, k5, k2]; cbv; try simp only [hrw, k3, k4, hat, k5, k2]; cbv; try simp only [hrw, k3, k4, hat, k5, k2]; cbv; try simp only [hrw, k3, k4, hat, k5, k2]; cbv) ?_
       refine goB hX 1 (by conv => lhs; cbv; try simp only [hrw, k3, k4, hat, k5, k2]; cbv; try simp only [hrw, k3, k4, hat, k5, k2]; cbv; try simp only [hrw, k3, k4, hat, k5, k2]; cbv; try simp only [hrw, k3, k4, hat, k5, k2]; cbv) ?_
       refine goB hX 1 (by conv => lhs; cbv; try simp only [hrw, k3, k4, hat, k5, k2]; cbv; try simp only [hrw, k3, k4, hat, k5, k2]; cbv; try simp only [hrw, k3, k4, hat, k5, k2]; cbv; try simp only [hrw, k3, k4, hat, k5, k2]; cbv) ?_
       refine goB hX 1 (by conv => lhs; cbv; try simp only [hrw, k3, k4, hat, k5, k2]; cbv; try simp only [hrw, k3, k4, hat, k5, k2]; cbv; try simp only [hrw, k3, k4, hat, k5, k2]; cbv; try simp only [hrw, k3, k4, hat, k5, k2]; cbv) ?_
       refine goB hX 1 (by conv => lhs; cbv; try simp only [hrw, k3, k4, hat, k5, k2]; cbv; try simp only [hrw, k3, k4, hat, k5, k2]; cbv; try simp only [hrw, k3, k4, hat, k5, k2]; cbv; try simp only [hrw, k3, k4, hat, k5, k2]; cbv) ?_
       refine goB hX 0 (by conv => lhs; cbv; try simp only [hrw, k3, k4, hat, k5, k2]; cbv; try simp only [hrw, k3, k4, hat, k5, k2]; cbv; try simp only [hrw, k3, k4, hat, k5, k2]; cbv; try simp only [hrw, k3, k4, hat, k5, k2]; cbv) ?_
       refine goB hX 1 (by conv => lhs; cbv; try simp only [hrw, k3, k4, hat, k5, k2]; cbv; try simp only [hrw, k3, k4, hat, k5, k2]; cbv; try simp only [hrw, k3, k4, hat, k5, k2]; cbv; try simp only [hrw, k3, k4, hat, k5, k2]; cbv) ?_
       refine goB hX 1 (by conv => lhs; cbv; try simp only [hrw, k3, k4, hat, k5, k2]; cbv; try simp only [hrw, k3, k4, hat, k5, k2]; cbv; try simp only [hrw, k3, k4, hat, k5, k2]; cbv; try simp only [hrw, k3, k4, hat, k5, k2]; cbv) ?_
       refine goB hX 1 (by conv => lhs; cbv; try simp only [hrw, k3, k4, hat, k5, k2]; cbv; try simp only [hrw, k3, k4, hat, k5, k2]; cbv; try simp only [hrw, k3, k4, hat, k5, k2]; cbv; try simp only [hrw, k3, k4, hat, k5, k2]; cbv) ?_
       refine nsB hX (by conv => lhs; cbv; try simp only [hrw, k3, k4, hat, k5, k2]; cbv; try simp only [hrw, k3, k4, hat, k5, k2]; cbv; try simp only [hrw, k3, k4, hat, k5, k2]; cbv; try simp only [hrw, k3, k4, hat, k5, k2]; cbv) ?_
       refine goA 60 ?_
       refine oPA hrn ?_
       refine goB hX 0 (by conv => lhs; cbv; try simp only [hrw, k3, k4, hat, k5, k2]; cbv; try simp only [hrw, k3, k4, hat, k5, k2]; cbv; try simp only [hrw, k3, k4, hat, k5, k2]; cbv; try simp only [hrw, k3, k4, hat, k5, k2]; cbv) ?_
       refine goA 60 ?_
       exact rnd_next rfl (hok2 (e0.trans hce)) (hent_sub [.to 0, .to 1, .to 2, .to 3, .gone, .gone, .gone, .to 7, .gone, .gone, .gone, .gone, .gone] [some 0, some 1, some 2, some 3, some 4, some 5, some 6, some 7, none, none] rfl ⟨rfl, rfl, rfl, rfl, rfl, rfl, rfl, rfl, trivial⟩ (by simp) (by simp) ⟨⟨by simp, rfl⟩, ⟨by simp, rfl⟩, ⟨by simp, rfl⟩, ⟨by simp, rfl⟩, trivial, trivial, trivial, ⟨by simp, rfl⟩, trivial, trivial, trivial, trivial, trivial, trivial⟩ ⟨osrc_cells (b := 0) rfl rfl rfl ⟨.refl _, .cl hpA, .refl _, .refl _, .refl _, .refl _, .refl _, .cl hpCa, .refl _, .refl _, .refl _, .refl _, .refl _, .refl _, trivial⟩, osrc_cells (b := 1) rfl rfl rfl ⟨.cl hct, trivial⟩, osrc_cells (b := 2) rfl rfl rfl ⟨.refl _, .refl _, .refl _, .refl _, .refl _, .refl _, .refl _, .refl _, .refl _, .refl _, .refl _, .refl _, .refl _, .refl _, trivial⟩, osrc_cells (b := 3) rfl rfl rfl ⟨.refl _, trivial⟩, .dead, .dead, .dead, .some 7 _ _ rfl rfl rfl (.loop _ _ _ _ _ _ _ _ ⟨.cl hip, .refl _, .refl _, .refl _, .refl _, trivial⟩), .dead, .dead, trivial⟩)
     · have k2 : iNe ce 0 = true := by simp only [ee]; simpa using hce
       obtain ⟨r1, r2⟩ := fin ce hce e0
       rw [r1, r2, Pat0.enc_eq]
       refine goA 60 ?_
       refine rnd_assign rfl ?_
       refine goB hX 0 (by conv => lhs; cbv; try simp only [hrw, k3, k4, hat, k5, k2]; cbv; try simp only [hrw, k3, k4, hat, k5, k2]; cbv; try simp only [hrw, k3, k4, hat, k5, k2]; cbv; try simp only [hrw, k3, k4, hat, k5, k2]; cbv) ?_
       refine goB hX 1 (by conv => lhs; cbv; try simp only [hrw, k3, k4, hat, k5, k2]; cbv; try simp only [hrw, k3, k4, hat, k5, k2]; cbv; try simp only [hrw, k3, k4, hat, k5, k2]; cbv; try simp only [hrw, k3, k4, hat, k5, k2]; cbv) ?_
       refine goB hX 1 (by conv => lhs; cbv; try simp only [hrw, k3, k4, hat, k5, k2]; cbv; try simp only [hrw, k3, k4, hat, k5, k2]; cbv; try simp only [hrw, k3, k4, hat, k5, k2]; cbv; try simp only [hrw, k3, k4, hat, k5, k2]; cbv) ?_
       refine goB hX 1 (by conv => lhs; cbv; try simp only [hrw, k3, k4, hat, k5, k2]; cbv; try simp only [hrw, k3, k4, hat, k5, k2]; cbv; try simp only [hrw, k3, k4, hat, k5, k2]; cbv; try simp only [hrw, k3, k4, hat, k5, k2]; cbv) ?_
       refine goB hX 1 (by conv => lhs; cbv; try simp only [hrw, k3, k4, hat, k5, k2]; cbv; try simp only [hrw, k3, k4, hat, k5, k2]; cbv; try simp only [hrw, k3, k4, hat, k5, k2]; cbv; try simp only [hrw, k3, k4, hat, k5, k2]; cbv) ?_
       refine goB hX 1 (by conv => lhs; cbv; try simp only [hrw, k3, k4, hat, k5, k2]; cbv; try simp only [hrw, k3, k4, hat, k5, k2]; cbv; try simp only [hrw, k3, k4, hat, k5, k2]; cbv; try simp only [hrw, k3, k4, hat, k5, k2]; cbv) ?_
       refine goB hX 0 (by conv => lhs; cbv; try simp only [hrw, k3, k4, hat, k5, k2]; cbv; try simp only [hrw, k3, k4, hat, k5, k2]; cbv; try simp only [hrw, k3, k4, hat, k5, k2]; cbv; try simp only [hrw, k3, k4, hat, k5, k2]; cbv) ?_
       refine goB hX 1 (by conv => lhs; cbv; try simp only [hrw, k3, k4, hat, k5, k2]; cbv; try simp only [hrw, k3, k4, hat, k5, k2]; cbv; try simp only [hrw, k3, k4, hat, k5, k2]; cbv; try simp only [hrw, k3, k4, hat, k5, k2]; cbv) ?_
       refine goB hX 1 (by conv => lhs; cbv; try simp only [hrw, k3, k4, hat, k5, k2]; cbv; try simp only [hrw, k3, k4, hat, k5, k2]; cbv; try simp only [hrw, k3, k4, hat, k5, k2]; cbv; try simp only [hrw, k3, k4, hat, k5, k2]; cbv) ?_
       refine goB hX 1 (by conv => lhs; cbv; try simp only [hrw, k3, k4, hat, k5, k2]; cbv; try simp only [hrw, k3, k4, hat, k5, k2]; cbv; try simp only [hrw, k3, k4, hat, k5, k2]; cbv; try simp only [hrw, k3, k4, hat, k5, k2]; cbv) ?_
       refine nsB hX (by conv => lhs; cbv; try simp only [hrw, k3, k4, hat, k5, k2]; cbv; try simp only [hrw, k3, k4, hat, k5, k2]; cbv; try simp only [hrw, k3, k4, hat, k5, k2]; cbv; try simp only [hrw, k3, k4, hat, k5, k2]; cbv) ?_
       refine goA 60 ?_
       refine oPA hrn ?_
       refine goB hX 0 (by conv => lhs; cbv; try simp only [hrw, k3, k4, hat, k5, k2]; cbv; try simp only [hrw, k3, k4, hat, k5, k2]; cbv; try simp only [hrw, k3, k4, hat, k5, k2]; cbv; try simp only [hrw, k3, k4, hat, k5, k2]; cbv) ?_
       refine goA 60 ?_
       refine rnd_stop (by simp) rfl ?_
       refine goA 60 ?_
       refine fn_ret rfl rfl ?_
       exact ⟨[.gone, .gone, .gone, .gone, .gone, .gone, .gone, .gone, .gone, .gone, .gone, .gone, .gone], ⟨trivial, trivial, trivial, trivial, trivial, trivial, trivial, trivial, trivial, trivial, trivial, trivial, trivial, trivial⟩, .tup' ⟨.agg' ⟨.refl _, .nilI _, .refl _, .refl _, .refl _, .refl _, .refl _, .nilI _, .refl _, .refl _, .refl _, .refl _, .refl _, .refl _, trivial⟩, .refl _, trivial⟩⟩
theorem comp_split (zs : List Int) : ∀ m, m ≤ zs.length → zs.Pairwise (· ≤ ·) →
 (Lib.compactUpTo zs.toArray m).Pairwise (· < ·) ∧ (∀ n, n ∈ Lib.compactUpTo zs.toArray m ↔ n ∈ zs.take m) := by
 intro m
 induction m with
 | zero => intro _ _; simp [Lib.compactUpTo]
 | succ m ih =>
  intro hm hp
  obtain ⟨i1, i2⟩ := ih (by omega) hp
  have hz : zs.toArray[m]! = zs[m] := by simp [getElem!_pos, show m < zs.length by omega]
  have htk : zs.take (m + 1) = zs.take m ++ [zs[m]] := by rw [List.take_succ_eq_append_getElem (by omega)]
  rw [Lib.compactUpTo_succ, hz]
  have hle : ∀ n ∈ zs.take m, n ≤ zs[m] := by
   intro n hn
   obtain ⟨j, hj, rfl⟩ := List.mem_iff_getElem.1 hn
   have hj' : j < m := by simp at hj; omega
   rw [List.getElem_take]
   exact (List.pairwise_iff_getElem.1 hp) j m (by omega) (by omega) hj'
  by_cases hk : Lib.keeps zs.toArray m = true
  · rw [if_pos hk]
    constructor
    · rw [List.pairwise_append]
      refine ⟨i1, by simp, fun x hx y hy => ?_⟩
      simp at hy; subst hy
      have hx' := (i2 x).1 hx
      have h1 := hle x hx'
      by_cases hm0 : m = 0
      · subst hm0; simp at hx'
      · have hne : zs[m] ≠ zs[m - 1] := by
         intro he
         have : Lib.keeps zs.toArray m = false := Lib.keeps_neg (by omega) (by
          rw [hz]; simp [getElem!_pos, show m - 1 < zs.length by omega]; exact he)
         rw [hk] at this; cases this
        have h2 : x ≤ zs[m - 1] := by
         obtain ⟨j, hj, rfl⟩ := List.mem_iff_getElem.1 hx'
         have hj' : j < m := by simp at hj; omega
         rw [List.getElem_take]
         by_cases hjm : j = m - 1
         · subst hjm; exact Int.le_refl _
         · exact (List.pairwise_iff_getElem.1 hp) j (m - 1) (by omega) (by omega) (by omega)
        have h3 := (List.pairwise_iff_getElem.1 hp) (m - 1) m (by omega) (by omega) (by omega)
        omega
    · intro n
      rw [htk, List.mem_append, List.mem_append, i2]
  · rw [if_neg hk, List.append_nil]
    refine ⟨i1, fun n => ?_⟩
    rw [htk, List.mem_append, i2, List.mem_singleton]
    refine ⟨.inl, ?_⟩
    rintro (h | rfl)
    · exact h
    · have hm0 : m ≠ 0 := by rintro rfl; exact hk (Lib.keeps_lt_one _ 0 (by omega))
      have he : zs[m] = zs[m - 1] := by
       by_cases he : zs[m] = zs[m - 1]
       · exact he
       · exact absurd (Lib.keeps_pos (d := zs.toArray) (m := m) (by rw [hz]; simp [getElem!_pos, show m - 1 < zs.length by omega]; exact he)) hk
      rw [he]
      exact List.mem_take_iff_getElem.2 ⟨m - 1, by omega, rfl⟩
theorem comp_ok (zs : List Int) (hp : zs.Pairwise (· ≤ ·)) : (Lib.compact zs).Pairwise (· < ·) ∧ ∀ n, n ∈ Lib.compact zs ↔ n ∈ zs := by
 have := comp_split zs zs.length (Nat.le_refl _) hp
 rw [List.take_length] at this
 exact this
theorem sort_sorted (l : List Int) : (sortI l).Pairwise (· ≤ ·) := by
 have := List.pairwise_mergeSort (le := fun x y : Int => decide (x ≤ y)) (fun a b c h1 h2 => by simp at *; omega) (fun a b => by simp; omega) l
 exact this.imp (by intro a b h; simpa using h)
theorem sort_mem (l : List Int) (n : Int) : n ∈ sortI l ↔ n ∈ l := by simp [sortI, List.mem_mergeSort]
theorem Pat.bound_mem {p : Pat} (n : Int) : n ∈ p.bound ↔ n ∈ bndF p.nodes := by
 rw [Pat.bound, (comp_ok _ (sort_sorted _)).2, sort_mem]
theorem Pat.bound_nodup (p : Pat) : p.bound.Pairwise (· < ·) := (comp_ok _ (sort_sorted _)).1
theorem chk_zero {p : Pat} (h : p.chk = 0) : p.wholeE = 0 ∧ (cfold p.nodes).2.2 = true := by
 unfold Pat.chk at h
 split at h
 · exact absurd h (by assumption)
 · rename_i h1
   split at h
   · exact ⟨by simpa using h1, by assumption⟩
   · cases h
theorem bndF_cons (q : Pat) (r : List Pat) : bndF (q :: r) = (if q.op = 0 then [q.var] else []) ++ bndF r := by
 unfold bndF; rw [List.filter_cons]; by_cases h : q.op = 0 <;> simp [h]
theorem cnt_node : ∀ p : Pat, ∀ q ∈ p.nodes, q.cnt ≤ p.cnt ∧ q.dep ≤ p.dep ∧ (∀ x ∈ q.nodes, x ∈ p.nodes) := by
 refine Pat.ind fun o a t v s n c ih q hq => ?_
 rw [Pat.nodes, List.mem_cons] at hq
 rcases hq with rfl | hq
 · exact ⟨Nat.le_refl _, Nat.le_refl _, fun x hx => hx⟩
 · obtain ⟨e, he, hqe⟩ := Pat.mem_nodesL hq
   obtain ⟨h1, h2, h3⟩ := ih e he q hqe
   have h4 := Pat.cnt_mem he
   have h5 : e.dep ≤ Pat.depL 0 a := by
    have : ∀ (l : List Pat) (d : Nat), d ≤ Pat.depL d l ∧ ∀ e ∈ l, e.dep ≤ Pat.depL d l := by
     intro l
     induction l with
     | nil => intro d; simp [Pat.depL]
     | cons x r ih =>
      intro d
      have := ih (max d x.dep)
      rw [Pat.depL]
      refine ⟨by omega, fun e he => ?_⟩
      rcases List.mem_cons.1 he with rfl | he
      · omega
      · exact this.2 e he
    exact (this a 0).2 e he
   refine ⟨by rw [Pat.cnt]; omega, by rw [Pat.dep]; omega, fun x hx => ?_⟩
   rw [Pat.nodes]
   refine List.mem_cons_of_mem _ ?_
   obtain ⟨l1, l2, rfl⟩ := List.append_of_mem he
   rw [Pat.nodesL_append, Pat.nodesL]
   simp [h3 x hx]
theorem chkR_zero {p : Pat} : p.chkR = 0 ↔ p.cnt ≤ 64 ∧ p.dep ≤ 12 ∧ ∀ q ∈ p.nodes, q.nodeE = 0 := by
 unfold Pat.chkR
 by_cases h1 : 64 < p.cnt
 · rw [if_pos h1]; simp; omega
 rw [if_neg h1]
 by_cases h2 : 12 < p.dep
 · rw [if_pos h2]; simp; omega
 rw [if_neg h2]
 exact ⟨fun h => ⟨by omega, by omega, firstE_zero h⟩, fun h => firstE_ok h.2.2⟩
theorem sorted_ext : ∀ a b : List Int, a.Pairwise (· < ·) → b.Pairwise (· < ·) → (∀ n, n ∈ a ↔ n ∈ b) → a = b
 | [], [], _, _, _ => rfl
 | [], y :: b, _, _, h => by have := (h y).2 (by simp); cases this
 | x :: a, [], _, _, h => by have := (h x).1 (by simp); cases this
 | x :: a, y :: b, ha, hb, h => by
  have ha' := List.pairwise_cons.1 ha
  have hb' := List.pairwise_cons.1 hb
  have hxy : x = y := by
   rcases List.mem_cons.1 ((h x).1 (by simp)) with e | e
   · exact e
   · rcases List.mem_cons.1 ((h y).2 (by simp)) with e2 | e2
     · exact e2.symm
     · have := ha'.1 y e2; have := hb'.1 x e; omega
  subst hxy
  refine congrArg (x :: ·) (sorted_ext a b ha'.2 hb'.2 fun n => ⟨fun hn => ?_, fun hn => ?_⟩)
  · rcases List.mem_cons.1 ((h n).1 (by simp [hn])) with e | e
    · subst e; have := ha'.1 n hn; omega
    · exact e
  · rcases List.mem_cons.1 ((h n).2 (by simp [hn])) with e | e
    · subst e; have := hb'.1 n hn; omega
    · exact e
structure Plc where
 us : List Int
 si : List Int
 fb : Int
noncomputable def Plc.enc (s : Plc) : AV := .agg [.isl 1 (mapE int s.us), .isl 1 (mapE int s.si), int s.fb]
def Plc0 : Plc := ⟨[], [], 0⟩
theorem Plc.closed (s : Plc) : s.enc.closed = true := by simp [Plc.enc, AV.closed, AV.closedL, closedL_int]
def uniI (a b : List Int) : List Int := Lib.compact (sortI (a ++ b))
theorem uni_mem (a b : List Int) (n : Int) : n ∈ uniI a b ↔ n ∈ a ∨ n ∈ b := by
 unfold uniI
 rw [(comp_ok _ (sort_sorted _)).2, sort_mem, List.mem_append]
theorem uni_sorted (a b : List Int) : (uniI a b).Pairwise (· < ·) := (comp_ok _ (sort_sorted _)).1
theorem uni_ext {a b c : List Int} (hc : c.Pairwise (· < ·)) (h : ∀ n, n ∈ c ↔ n ∈ a ∨ n ∈ b) : uniI a b = c :=
 sorted_ext _ _ (uni_sorted a b) hc fun n => by rw [uni_mem, h]
theorem uni_len (a b : List Int) : (uniI a b).length ≤ a.length + b.length := by
 unfold uniI
 have h1 : (Lib.compact (sortI (a ++ b))).length ≤ (sortI (a ++ b)).length := compact_le _
 rw [sort_len] at h1
 simpa using h1
theorem nodup_le : ∀ (n : Nat) (l : List Int), l.Nodup → (∀ v ∈ l, 0 ≤ v ∧ v < n) → l.length ≤ n
 | 0, l, _, h => by
  cases l with
  | nil => simp
  | cons x r => have := h x (by simp); omega
 | n + 1, l, hn, h => by
  by_cases hm : (n : Int) ∈ l
  · have h1 := nodup_le n (l.erase n) (hn.erase _) (fun v hv => by
     have := (List.Nodup.mem_erase_iff hn).1 hv
     have := h v this.2
     omega)
    rw [List.length_erase_of_mem hm] at h1
    omega
  · have := nodup_le n l hn (fun v hv => by
     have := h v hv
     have : v ≠ n := fun e => hm (e ▸ hv)
     omega)
    omega
def VR (l : List Int) : Prop := ∀ n ∈ l, 0 ≤ n ∧ n < 16
theorem VR.uni {a b : List Int} (ha : VR a) (hb : VR b) : VR (uniI a b) := fun n hn => by
 rcases (uni_mem a b n).1 hn with h | h
 · exact ha n h
 · exact hb n h
theorem VR.len {l : List Int} (h : VR l) (hs : l.Pairwise (· < ·)) : l.length ≤ 16 := nodup_le 16 l (hs.imp fun h => by omega) h
def keepsF (o : Int) : Bool := decide (o = 0 ∨ o = 1 ∨ o = 3 ∨ o = 5 ∨ o = 6 ∨ o = 7)
def testsF (o : Int) : Bool := decide (o = 0 ∨ o = 5 ∨ o = 7)
mutual
def Pat.ones : Pat → List Int
 | .mk o a _ v _ _ _ => if keepsF o = true then (if o = 0 then [v] else Pat.onesL [] a) else []
def Pat.onesL : List Int → List Pat → List Int
 | acc, [] => acc
 | acc, e :: r => Pat.onesL (uniI acc e.ones) r
end
def Pat.arg0 (p : Pat) : Pat := p.args.headD Pat0
def Pat.own (p : Pat) (l : Plc) : Plc :=
 if p.op = 0 then ⟨uniI l.us [p.var], uniI l.si [p.var], -1⟩
 else if p.op = 5 then ⟨uniI (uniI l.us p.arg0.bound) [p.var], uniI l.si [p.var], p.var⟩
 else ⟨uniI l.us p.arg0.bound, uniI l.si p.arg0.ones, -1⟩
def Plc.plus (l : Plc) (e : Pat) : Plc := ⟨uniI l.us e.bound, uniI l.si e.ones, -1⟩
mutual
def Pat.lf : Plc → Pat → List (Pat × Plc)
 | l, .mk o a t v s n c => (.mk o a t v s n c, l) :: Pat.lfL (decide (o = 1)) l a
def Pat.lfL : Bool → Plc → List Pat → List (Pat × Plc)
 | _, _, [] => []
 | b, l, e :: r => Pat.lf l e ++ Pat.lfL b (if b then l.plus e else l) r
end
def PlcS : Plc := ⟨[], [], -1⟩
theorem Pat.lfL_map {r : List Pat} (h : ∀ e ∈ r, ∀ l, (Pat.lf l e).map Prod.fst = e.nodes) : ∀ b l, (Pat.lfL b l r).map Prod.fst = Pat.nodesL r := by
 induction r with
 | nil => intro b l; rfl
 | cons x r ih =>
  intro b l
  rw [Pat.lfL, Pat.nodesL, List.map_append, h x (by simp), ih fun e he => h e (by simp [he])]
theorem Pat.lf_map : ∀ p : Pat, ∀ l, (Pat.lf l p).map Prod.fst = p.nodes := Pat.ind fun o a t v s n c h l => by
 rw [Pat.lf, Pat.nodes, List.map_cons, Pat.lfL_map h]
theorem Pat.lf_len (p : Pat) (l : Plc) : (Pat.lf l p).length = p.cnt := by rw [← Pat.nodes_len, ← Pat.lf_map p l, List.length_map]
noncomputable def folE (s : Plc) (e : Ex) : Int := open Classical in
 if 1 ≤ e.op ∧ e.op ≤ 4 then (if e.var ∉ s.us then 10 else if ((e.op = 1 ∨ e.op = 2) ∧ e.var ∉ s.si) ∨ ((e.op = 3 ∨ e.op = 4) ∧ e.var = s.fb) then 11 else 0) else 0
noncomputable def Ex.fol (s : Plc) (e : Ex) : Int := firstE (folE s) e.nodes
noncomputable def Pat.atE (p : Pat) (i : Int) : Int :=
 if p.chk ≠ 0 then p.chk else if 0 ≤ i ∧ i < p.nodes.length then (if testsF (p.nodeAt i).op = true then 0 else 1) else 6
noncomputable def Pat.atP (p : Pat) (i : Int) : Plc := if p.atE i = 0 then (((Pat.lf PlcS p).getD i.toNat (Pat0, Plc0)).1.own ((Pat.lf PlcS p).getD i.toNat (Pat0, Plc0)).2) else Plc0
noncomputable def condE (x : Pat × Plc) : Int := if testsF x.1.op = true then x.1.cond.fol (x.1.own x.2) else 0
def idxE {α : Type} (F : α → Int) : List α → Int
 | [] => 0
 | x :: r => if F x ≠ 0 then 0 else if firstE F r ≠ 0 then idxE F r + 1 else 0
noncomputable def Pat.scE (p : Pat) : Int := if p.chk ≠ 0 then p.chk else firstE condE (Pat.lf PlcS p)
noncomputable def Pat.scI (p : Pat) : Int := if p.chk ≠ 0 then 0 else idxE condE (Pat.lf PlcS p)
noncomputable def retE (s : Plc) (e : Ex) : Int := if e.chk ≠ 0 then e.chk else e.fol s
noncomputable def Pat.retP (p : Pat) : Plc := ⟨p.bound, p.ones, -1⟩
noncomputable def Pat.rtE (p : Pat) (l : List Ex) : Int := if p.chk ≠ 0 then p.chk else if 256 < l.length then 5 else firstE (retE p.retP) l
noncomputable def Pat.rtI (p : Pat) (l : List Ex) : Int := if p.chk ≠ 0 then 0 else if 256 < l.length then 0 else idxE (retE p.retP) l
def Pat.nok (q : Pat) : Prop := 0 ≤ q.op ∧ q.op < 8 ∧ (typedF q.op = true → 0 ≤ q.var ∧ q.var < 16) ∧ (q.op = 0 → q.args = []) ∧ (q.op = 5 ∨ q.op = 6 ∨ q.op = 7 → ∃ e, q.args = [e])
theorem nodeE_nok {q : Pat} (h : q.nodeE = 0) (h8 : q.op < 8) : q.nok := by
 unfold Pat.nodeE at h
 by_cases h1 : q.op < 0 ∨ 11 ≤ q.op
 · rw [if_pos h1] at h; cases h
 rw [if_neg h1] at h
 by_cases h2 : (q.args.length : Int) < leastF q.op ∨ mostF q.op < q.args.length
 · rw [if_pos h2] at h; cases h
 rw [if_neg h2] at h
 by_cases h3 : (typedF q.op = true ∧ (q.ty < 0 ∨ 15 < q.ty ∨ q.var < 0 ∨ 15 < q.var)) ∨ (scopeF q.op = true ∧ (q.scope < 0 ∨ 63 < q.scope)) ∨ (spanF q.op = true ∧ (q.span < 0 ∨ 1099511627776 < q.span))
 · rw [if_pos h3] at h; cases h
 refine ⟨by omega, h8, fun ht => ⟨Int.not_lt.1 fun hh => h3 (.inl ⟨ht, .inr (.inr (.inl hh))⟩), ?_⟩, fun h0 => ?_, fun h5 => ?_⟩
 · have : ¬ 15 < q.var := fun hh => h3 (.inl ⟨ht, .inr (.inr (.inr hh))⟩)
   omega
 · have hm : mostF q.op = 0 := by rw [h0]; rfl
   rw [hm] at h2
   exact List.length_eq_zero_iff.1 (by omega)
 · have hm : leastF q.op = 1 ∧ mostF q.op = 1 := by rcases h5 with h5 | h5 | h5 <;> rw [h5] <;> exact ⟨rfl, rfl⟩
   rw [hm.1, hm.2] at h2
   exact List.length_eq_one_iff.1 (by omega)
def Pat.wf (p : Pat) : Prop := ∀ q ∈ p.nodes, q.nok
theorem chk_wf {p : Pat} (h : p.chk = 0) : p.wf := fun q hq =>
 nodeE_nok ((wholeE_ok (chk_zero h).1).2.1 q hq) ((wholeE_ok (chk_zero h).1).2.2 q hq)
theorem Pat.wf.arg {o a t v s n c} (h : (Pat.mk o a t v s n c).wf) {e : Pat} (he : e ∈ a) : e.wf := fun q hq => h q (by
 rw [Pat.nodes]
 obtain ⟨d, r, rfl⟩ := List.append_of_mem he
 simp [Pat.nodesL_append, Pat.nodesL, hq])
theorem Pat.wf.self {p : Pat} (h : p.wf) : p.nok := h p (by rw [Pat.nodes_eq]; simp)
theorem Pat.wf.node {p q : Pat} (h : p.wf) (hq : q ∈ p.nodes) : q.wf := fun x hx => h x ((cnt_node p q hq).2.2 x hx)
theorem bound_vr {p : Pat} (h : p.wf) : VR p.bound := fun n hn => by
 rw [Pat.bound_mem] at hn
 unfold bndF at hn
 obtain ⟨q, hq, rfl⟩ := List.mem_map.1 hn
 have hq := List.mem_filter.1 hq
 have h0 : q.op = 0 := by simpa using hq.2
 exact (h q hq.1).2.2.1 (by rw [h0]; rfl)
theorem ones_spec : ∀ p : Pat, p.wf → p.ones.Pairwise (· < ·) ∧ VR p.ones := Pat.ind fun o a t v s n c ih h => by
 have hL : ∀ (r : List Pat) (acc : List Int), (∀ e ∈ r, e ∈ a) → acc.Pairwise (· < ·) ∧ VR acc → (Pat.onesL acc r).Pairwise (· < ·) ∧ VR (Pat.onesL acc r) := by
  intro r
  induction r with
  | nil => intro acc _ ha; rw [Pat.onesL]; exact ha
  | cons x r ihr =>
   intro acc hm ha
   rw [Pat.onesL]
   exact ihr _ (fun e he => hm e (by simp [he])) ⟨uni_sorted _ _, ha.2.uni (ih x (hm x (by simp)) (h.arg (hm x (by simp)))).2⟩
 rw [Pat.ones]
 split
 · split
   · rename_i _ h0
     refine ⟨List.pairwise_singleton _ _, fun n hn => ?_⟩
     simp at hn
     have := h.self.2.2.1 (by simp only [Pat.op]; rw [h0]; rfl)
     simp only [Pat.var] at this
     omega
   · exact hL a [] (fun _ h => h) ⟨List.Pairwise.nil, fun _ h => by cases h⟩
 · exact ⟨List.Pairwise.nil, fun _ h => by cases h⟩
theorem ones_len {p : Pat} (h : p.wf) : p.ones.length ≤ 16 := (ones_spec p h).2.len (ones_spec p h).1
theorem bound_len {p : Pat} (h : p.wf) : p.bound.length ≤ 16 := (bound_vr h).len p.bound_nodup
theorem uni_nil {a : List Int} (h : a.Pairwise (· < ·)) : uniI [] a = a := uni_ext h fun n => by simp
theorem bound_arg {p e : Pat} (h0 : p.op ≠ 0) (ha : p.args = [e]) : p.bound = e.bound := by
 unfold Pat.bound
 rw [Pat.nodes_eq, ha, bndF_cons, if_neg h0]
 simp [Pat.nodesL]
def Plc.ok (l : Plc) : Prop := VR l.us ∧ VR l.si ∧ l.us.length ≤ 16 ∧ l.si.length ≤ 16
theorem PlcS_ok : PlcS.ok := ⟨fun _ h => (by cases h), fun _ h => (by cases h), by decide, by decide⟩
theorem Plc.ok.plus {l : Plc} (h : l.ok) {e : Pat} (he : e.wf) : (l.plus e).ok := by
 have h1 := h.1.uni (bound_vr he)
 have h2 := h.2.1.uni (ones_spec e he).2
 exact ⟨h1, h2, h1.len (uni_sorted _ _), h2.len (uni_sorted _ _)⟩
theorem Pat.lfL_ok {b : Bool} {r : List Pat} (ih : ∀ e ∈ r, e.wf → ∀ l : Plc, l.ok → ∀ x ∈ Pat.lf l e, x.2.ok ∧ x.1 ∈ e.nodes) (hw : ∀ e ∈ r, e.wf) : ∀ l : Plc, l.ok → ∀ x ∈ Pat.lfL b l r, x.2.ok ∧ x.1 ∈ Pat.nodesL r := by
 induction r with
 | nil => intro l _ x hx; cases hx
 | cons y r ihr =>
  intro l hl x hx
  rw [Pat.lfL] at hx
  rw [Pat.nodesL]
  rcases List.mem_append.1 hx with hx | hx
  · obtain ⟨h1, h2⟩ := ih y (by simp) (hw y (by simp)) l hl x hx
    exact ⟨h1, List.mem_append.2 (.inl h2)⟩
  · obtain ⟨h1, h2⟩ := ihr (fun e he => ih e (by simp [he])) (fun e he => hw e (by simp [he])) (if b then l.plus y else l) (by split; exact hl.plus (hw y (by simp)); exact hl) x hx
    exact ⟨h1, List.mem_append.2 (.inr h2)⟩
theorem Pat.lf_ok : ∀ p : Pat, p.wf → ∀ l : Plc, l.ok → ∀ x ∈ Pat.lf l p, x.2.ok ∧ x.1 ∈ p.nodes := Pat.ind fun o a t v s n c ih h l hl x hx => by
 rw [Pat.lf] at hx
 rw [Pat.nodes]
 rcases List.mem_cons.1 hx with rfl | hx
 · exact ⟨hl, List.mem_cons_self⟩
 · obtain ⟨h1, h2⟩ := Pat.lfL_ok ih (fun e he => h.arg he) l hl x hx
   exact ⟨h1, List.mem_cons_of_mem _ h2⟩
theorem own_ok {q : Pat} (hq : q.wf) (ht : testsF q.op = true) {l : Plc} (hl : l.ok) : (q.own l).ok := by
 have hn := hq.self
 have v1 : typedF q.op = true → VR [q.var] := fun h n hn2 => by simp at hn2; rw [hn2]; exact hn.2.2.1 h
 have fin : ∀ a b c, VR a → VR b → a.Pairwise (· < ·) → b.Pairwise (· < ·) → (⟨a, b, c⟩ : Plc).ok := fun a b c h1 h2 h3 h4 => ⟨h1, h2, h1.len h3, h2.len h4⟩
 unfold Pat.own
 by_cases h0 : q.op = 0
 · rw [if_pos h0]
   have v1 := v1 (by rw [h0]; rfl)
   exact fin _ _ _ (hl.1.uni v1) (hl.2.1.uni v1) (uni_sorted _ _) (uni_sorted _ _)
 rw [if_neg h0]
 have h57 : q.op = 5 ∨ q.op = 7 := by unfold testsF at ht; simp at ht; omega
 obtain ⟨e, he⟩ := hn.2.2.2.2 (by omega)
 have hea : q.arg0 = e := by unfold Pat.arg0; rw [he]; rfl
 have hew : e.wf := by
  obtain ⟨o, a, t, v, s, n, c⟩ := q
  simp only [Pat.args] at he
  exact hq.arg (by rw [he]; simp)
 rw [hea]
 by_cases h5 : q.op = 5
 · rw [if_pos h5]
   have v1 := v1 (by rw [h5]; rfl)
   exact fin _ _ _ ((hl.1.uni (bound_vr hew)).uni v1) (hl.2.1.uni v1) (uni_sorted _ _) (uni_sorted _ _)
 · rw [if_neg h5]
   exact fin _ _ _ (hl.1.uni (bound_vr hew)) (hl.2.1.uni (ones_spec e hew).2) (uni_sorted _ _) (uni_sorted _ _)
structure Lim where
 scope : Int
 span : Int
def Lim.enc (l : Lim) : AV := .agg [int l.scope, int l.span]
def yesE : Ex := .mk 0 [] 0 0 0 ⟨1, 1, ⟨#[]⟩⟩
def eventP (k v : Int) : Pat := .mk 0 [] k v 0 0 yesE
theorem yesE.enc_eq : yesE.enc = .agg [int 0, .isl 8 [], int 0, int 0, int 0, int 1, int 1, str ⟨#[]⟩] := by
 rw [yesE, Ex.enc_mk, mapE_eq]; rfl
theorem eventP.enc_eq (k v : Int) : (eventP k v).enc = .agg [int 0, .isl 14 [], int k, int v, int 0, int 0, int 0, .isl 8 [], int 0, int 0, int 0, int 1, int 1, str ⟨#[]⟩] := by
 rw [eventP, yesE, Pat.enc_mk, mapE_eq, mapE_eq]; rfl
theorem P_Flag (b : Bool) : PCall EE 52 [bool b] (.agg [int 1, int (if b then 1 else 0), str ⟨#[]⟩]) := by
 refine wordsN ?_; unhygienic intros
 refine fn_body (fn := Tryd.f52) (n := 6) (ac := Trydc52) (rvs := [.cell 2 3 true]) rfl (by decide) Trydp52 rfl rfl rfl ?_
 cases b with
 | true =>
  refine goA 60 ?_
  refine fn_ret rfl rfl ?_
  exact ⟨[.gone], ⟨trivial, trivial⟩, .refl _⟩
 | false =>
  refine goA 60 ?_
  refine fn_ret rfl rfl ?_
  exact ⟨[.gone], ⟨trivial, trivial⟩, .refl _⟩
def idxW (f : Int → Bool) : List Int → Int → Int
 | [], _ => -1
 | q :: r, i => if f q = true then i else idxW f r (i + 1)
theorem idxW_any (f : Int → Bool) : ∀ (l : List Int) (i : Int), 0 ≤ i → (0 ≤ idxW f l i ↔ l.any f = true) := by
 intro l
 induction l with
 | nil => intro i _; simp [idxW]
 | cons q r ih =>
  intro i hi
  rw [idxW, List.any_cons]
  cases hq : f q with
  | true => simp [hi]
  | false => simp [ih (i + 1) (by omega)]
theorem P_IndexFunc (g : FuncId) (cs : List AV) (hcs : AV.closedL cs = true) (f : Int → Bool) (l : List Int) (hl : l.length < 1048577) (hg : ∀ x ∈ l, PCall EE g ([int x] ++ cs) (bool (f x))) : PCall EE 47 [.isl 1 (mapE int l), .fn g cs] (int (idxW f l 0)) := by
 obtain ⟨j, hj⟩ : ∃ j, j = idxW f l 0 := ⟨_, rfl⟩
 rw [← hj]
 have hcl := closedI_int l
 have hfn : (AV.fn g cs).closed = true := by simp [AV.closed, hcs]
 refine wordsN ?_; unhygienic intros
 generalize hes : mapE int l = es at *
 have hel : es.length = l.length := by rw [← hes, mapE_len]
 refine fn_body (fn := Tryd.f47) (n := 19) (ac := Trydc47) (rvs := [.t 4]) rfl (by decide) Trydp47 rfl rfl rfl ?_
 refine goA 60 ?_
 refine on_loopP (ι := List Int × List Int × Int) (fun p => ([(8, int p.2.2), (7, int (lenA es)), (0, .isl 1 es), (1, .fn g cs)], [])) (fun p => l = p.1 ++ p.2.1 ∧ p.2.2 = p.1.length ∧ j = idxW f p.2.1 p.2.2) (fun p => p.2.1.length) ([], l, 0) ⟨rfl, rfl, hj⟩ ?_ ?_
 · exact (ent_sub [] [] trivial trivial ⟨.refl _, .refl _, .cl hcl, .cl hfn, trivial⟩)
 rintro ⟨d, r, i⟩ ⟨g1, gi, gv⟩
 dsimp only at g1 gi gv ⊢
 cases r with
 | nil =>
  have L1 := len_split g1
  try simp only [List.length] at L1
  have hc : iLt i (lenA es) = false := lt_f e_iLt e_lenA (by omega)
  rw [idxW] at gv
  refine goB hX 0 (by conv => lhs; cbv; try simp only [hc]; cbv; try simp only [hc]; cbv; try simp only [hc]; cbv; try simp only [hc]; cbv) ?_
  refine goA 60 ?_
  refine loopP_exit ?_
  refine goA 60 ?_
  refine fn_ret rfl rfl (.val ?_)
  exact congrArg (Value.int .i64) gv.symm
 | cons q r =>
  have L1 := len_split g1
  try simp only [List.length] at L1
  have hc : iLt i (lenA es) = true := lt_t e_iLt e_lenA (by omega)
  have hat := el_at e_atA hes g1 gi
  have hq := hg q (by rw [g1]; simp)
  have hi2 : iAdd .i64 i 1 = ((d ++ [q]).length : Int) := by rw [List.length_append]; exact inc_w e_iAdd gi (by omega)
  rw [idxW] at gv
  cases hfq : f q with
  | true =>
   rw [hfq] at hq gv
   rw [if_pos rfl] at gv
   refine goB hX 0 (by conv => lhs; cbv; try simp only [hc, hat]; cbv; try simp only [hc, hat]; cbv; try simp only [hc, hat]; cbv; try simp only [hc, hat]; cbv) ?_
   refine goB hX 1 (by conv => lhs; cbv; try simp only [hc, hat]; cbv; try simp only [hc, hat]; cbv; try simp only [hc, hat]; cbv; try simp only [hc, hat]; cbv) ?_
   refine on_pcallv (args := [int q] ++ cs) rfl rfl rfl rfl hq (by simp [AV.closedL, closed_v, hcs]) ?_
   refine goB hX 0 (by conv => lhs; cbv; try simp only [hc, hat]; cbv; try simp only [hc, hat]; cbv; try simp only [hc, hat]; cbv; try simp only [hc, hat]; cbv) ?_
   refine goA 60 ?_
   refine loopP_ret ?_
   refine goA 60 ?_
   refine fn_ret rfl rfl (.val ?_)
   exact congrArg (Value.int .i64) gv.symm
  | false =>
   rw [hfq] at hq gv
   rw [if_neg (by decide)] at gv
   have gv2 : j = idxW f r (iAdd .i64 i 1) := by rw [gv, hi2, gi]; simp
   refine goB hX 0 (by conv => lhs; cbv; try simp only [hc, hat]; cbv; try simp only [hc, hat]; cbv; try simp only [hc, hat]; cbv; try simp only [hc, hat]; cbv) ?_
   refine goB hX 1 (by conv => lhs; cbv; try simp only [hc, hat]; cbv; try simp only [hc, hat]; cbv; try simp only [hc, hat]; cbv; try simp only [hc, hat]; cbv) ?_
   refine on_pcallv (args := [int q] ++ cs) rfl rfl rfl rfl hq (by simp [AV.closedL, closed_v, hcs]) ?_
   refine goB hX 0 (by conv => lhs; cbv; try simp only [hc, hat]; cbv; try simp only [hc, hat]; cbv; try simp only [hc, hat]; cbv; try simp only [hc, hat]; cbv) ?_
   refine goA 60 ?_
   refine loopP_next (d ++ [q], r, iAdd .i64 i 1) ⟨by simp [g1], hi2, gv2⟩ (by simp) (ent_sub [] [] trivial trivial ⟨.refl _, .refl _, .cl hcl, .cl hfn, trivial⟩)
theorem P_ContainsFunc (g : FuncId) (cs : List AV) (hcs : AV.closedL cs = true) (f : Int → Bool) (l : List Int) (hl : l.length < 1048577) (hg : ∀ x ∈ l, PCall EE g ([int x] ++ cs) (bool (f x))) : PCall EE 20 [.isl 1 (mapE int l), .fn g cs] (bool (l.any f)) := by
 have h1 := P_IndexFunc g cs hcs f l hl hg
 have hj := idxW_any f l 0 (by omega)
 generalize idxW f l 0 = j at *
 have hcl := closedI_int l
 have hfn : (AV.fn g cs).closed = true := by simp [AV.closed, hcs]
 obtain ⟨R, hR⟩ : ∃ R, R = l.any f := ⟨_, rfl⟩
 rw [← hR] at hj ⊢
 refine wordsN ?_; unhygienic intros
 generalize mapE int l = es at *
 refine fn_body (fn := Tryd.f20) (n := 9) (ac := Trydc20) (rvs := [.t 4]) rfl (by decide) Trydp20 rfl rfl rfl ?_
 have hRe : iLe 0 j = R := by simp only [ee]; rw [Bool.eq_iff_iff]; simp [hj]
 refine goA 60 ?_
 refine oPA h1 ?_
 refine goA 60 ?_
 refine fn_ret rfl rfl (.val ?_)
 exact congrArg Value.bool hRe
def markV (s : List Bool) (q : Ex) : List Bool := if usesV q.op = true ∧ 0 ≤ q.var ∧ q.var < 16 then s.set q.var.toNat true else s
def varsU (S : List Bool) : Nat → List Int
 | 0 => []
 | j + 1 => varsU S j ++ (if S.getD j false then [(j : Int)] else [])
def Ex.marks (e : Ex) : List Bool := e.nodes.foldl markV (List.replicate 16 false)
def Ex.vars (e : Ex) : List Int := varsU e.marks 16
theorem P_Index (l : List Int) (v : Int) (hl : l.length < 1048577) : ∃ j : Int, (0 ≤ j ↔ v ∈ l) ∧ PCall EE 42 [.isl 1 (mapE int l), int v] (int j) := by
 obtain ⟨j, hj1, hj2⟩ : ∃ j : Int, (v ∉ l → j = -1) ∧ (∀ d r, l = d ++ v :: r → v ∉ d → j = d.length) := by
  by_cases h : v ∈ l
  · obtain ⟨d, r, rfl, hd⟩ := List.eq_append_cons_of_mem h
    refine ⟨d.length, fun hn => absurd h hn, fun d2 r2 e hd2 => ?_⟩
    have : ∀ (d d2 : List Int) (r r2 : List Int), d ++ v :: r = d2 ++ v :: r2 → v ∉ d → v ∉ d2 → d.length = d2.length := by
     intro d
     induction d with
     | nil =>
      intro d2 r r2 e _ h2
      cases d2 with
      | nil => rfl
      | cons x y => simp at e; simp [e.1] at h2
     | cons x y ih =>
      intro d2 r r2 e h1 h2
      cases d2 with
      | nil => simp at e; simp [e.1] at h1
      | cons x2 y2 =>
       simp at e h1 h2
       simp [ih y2 r r2 e.2 h1.2 h2.2]
    rw [this d d2 r r2 e hd hd2]
  · exact ⟨-1, fun _ => rfl, fun d r e => absurd (by rw [e]; simp) h⟩
 refine ⟨j, ?_, ?_⟩
 · constructor
   · intro h; exact Classical.byContradiction fun hn => by have := hj1 hn; omega
   · intro h
     obtain ⟨d, r, e, hd⟩ := List.eq_append_cons_of_mem h
     have := hj2 d r e hd; omega
 have hcl := closedI_int l
 refine wordsN ?_; unhygienic intros
 generalize hes : mapE int l = es at *
 have hel : es.length = l.length := by rw [← hes, mapE_len]
 refine fn_body (fn := Tryd.f42) (n := 19) (ac := Trydc42) (rvs := [.t 4]) rfl (by decide) Trydp42 rfl rfl rfl ?_
 refine goA 60 ?_
 refine on_loopP (ι := List Int × List Int × Int) (fun p => ([(8, int p.2.2), (7, int (lenA es)), (0, .isl 1 es), (1, int v)], [])) (fun p => l = p.1 ++ p.2.1 ∧ p.2.2 = p.1.length ∧ v ∉ p.1) (fun p => p.2.1.length) ([], l, 0) ⟨rfl, rfl, by simp⟩ ?_ ?_
 · exact (ent_sub [] [] trivial trivial ⟨.refl _, .refl _, .cl hcl, .refl _, trivial⟩)
 rintro ⟨d, r, i⟩ ⟨g1, gi, gv⟩
 dsimp only at g1 gi gv ⊢
 cases r with
 | nil =>
  have L1 := len_split g1
  try simp only [List.length] at L1
  have hc : iLt i (lenA es) = false := lt_f e_iLt e_lenA (by omega)
  rw [List.append_nil] at g1
  have hj : j = -1 := hj1 (by rw [g1]; exact gv)
  refine goB hX 0 (by conv => lhs; cbv; try simp only [hc]; cbv; try simp only [hc]; cbv; try simp only [hc]; cbv; try simp only [hc]; cbv) ?_
  refine goA 60 ?_
  refine loopP_exit ?_
  refine goA 60 ?_
  refine fn_ret rfl rfl (.val ?_)
  exact congrArg (Value.int .i64) hj.symm
 | cons q r =>
  have L1 := len_split g1
  try simp only [List.length] at L1
  have hc : iLt i (lenA es) = true := lt_t e_iLt e_lenA (by omega)
  have hat := el_at e_atA hes g1 gi
  have hi2 : iAdd .i64 i 1 = ((d ++ [q]).length : Int) := by rw [List.length_append]; exact inc_w e_iAdd gi (by omega)
  by_cases hq : v = q
  · have k1 : iEq v q = true := by simp only [ee]; simpa using hq
    have hj : i = j := by rw [hj2 d r (by rw [g1, hq]) gv]; exact gi
    refine goB hX 0 (by conv => lhs; cbv; try simp only [hc, hat, k1]; cbv; try simp only [hc, hat, k1]; cbv; try simp only [hc, hat, k1]; cbv; try simp only [hc, hat, k1]; cbv) ?_
    refine goB hX 1 (by conv => lhs; cbv; try simp only [hc, hat, k1]; cbv; try simp only [hc, hat, k1]; cbv; try simp only [hc, hat, k1]; cbv; try simp only [hc, hat, k1]; cbv) ?_
    refine goA 60 ?_
    refine loopP_ret ?_
    refine goA 60 ?_
    refine fn_ret rfl rfl (.val ?_)
    exact congrArg (Value.int .i64) hj
  · have k1 : iEq v q = false := by simp only [ee]; simpa using hq
    have gv2 : v ∉ d ++ [q] := by simp [gv, hq]
    refine goB hX 0 (by conv => lhs; cbv; try simp only [hc, hat, k1]; cbv; try simp only [hc, hat, k1]; cbv; try simp only [hc, hat, k1]; cbv; try simp only [hc, hat, k1]; cbv) ?_
    refine goB hX 1 (by conv => lhs; cbv; try simp only [hc, hat, k1]; cbv; try simp only [hc, hat, k1]; cbv; try simp only [hc, hat, k1]; cbv; try simp only [hc, hat, k1]; cbv) ?_
    refine goA 60 ?_
    refine loopP_next (d ++ [q], r, iAdd .i64 i 1) ⟨by simp [g1], hi2, gv2⟩ (by simp) (ent_sub [] [] trivial trivial ⟨.refl _, .refl _, .cl hcl, .refl _, trivial⟩)
theorem P_Contains (l : List Int) (v : Int) (hl : l.length < 1048577) : PCall EE 15 [.isl 1 (mapE int l), int v] (bool (decide (v ∈ l))) := by
 obtain ⟨j, hj, h1⟩ := P_Index l v hl
 have hcl := closedI_int l
 obtain ⟨R, hR⟩ : ∃ R, R = decide (v ∈ l) := ⟨_, rfl⟩
 rw [← hR]
 refine wordsN ?_; unhygienic intros
 generalize mapE int l = es at *
 refine fn_body (fn := Tryd.f15) (n := 9) (ac := Trydc15) (rvs := [.t 4]) rfl (by decide) Trydp15 rfl rfl rfl ?_
 have hRe : iLe 0 j = R := by simp only [ee]; rw [hR]; simp [hj]
 refine goA 60 ?_
 refine oPA h1 ?_
 refine goA 60 ?_
 refine fn_ret rfl rfl (.val ?_)
 exact congrArg Value.bool hRe
theorem Ex.reb_cntL {G : Ex → Ex} {l : List Ex} (h : ∀ e ∈ l, (e.reb G).cnt = e.cnt) : Ex.cntL (Ex.rebL G l) = Ex.cntL l := by
 induction l with
 | nil => rfl
 | cons e r ih => rw [Ex.rebL, Ex.cntL, Ex.cntL, h e (by simp), ih fun e he => h e (by simp [he])]
theorem Ex.reb_cnt {G : Ex → Ex} (hG : ∀ q, (G q).cnt = q.cnt) : ∀ e : Ex, (e.reb G).cnt = e.cnt := Ex.ind fun o a v f k x h => by
 rw [Ex.reb, hG, Ex.cnt, Ex.cnt, Ex.reb_cntL h]
theorem renG_cnt (to : List Int) (q : Ex) : (renG to q).cnt = q.cnt := by
 obtain ⟨o, a, v, f, k, x⟩ := q
 rw [renG]; split <;> simp [Ex.cnt, Ex.args]
theorem Ex.rename_sm {to : List Int} {e : Ex} (h : e.Sm) : (e.rename to).Sm := by
 unfold Ex.rename
 split
 · unfold Ex.Sm; rw [Ex.reb_cnt (renG_cnt to)]; exact h
 · simp [Ex.Sm, Ex0, Ex.cnt, Ex.cntL]
theorem Pat.ren_nodesL {to : List Int} {l : List Pat} (h : ∀ e ∈ l, (e.ren to).nodes = e.nodes.map (Pat.ren to)) : Pat.nodesL (Pat.renL to l) = (Pat.nodesL l).map (Pat.ren to) := by
 induction l with
 | nil => simp [Pat.renL, Pat.nodesL]
 | cons e r ih => rw [Pat.renL, Pat.nodesL, Pat.nodesL, h e (by simp), ih fun e he => h e (by simp [he]), List.map_append]
theorem Pat.ren_nodes (to : List Int) : ∀ p : Pat, (p.ren to).nodes = p.nodes.map (Pat.ren to) := Pat.ind fun o a t v s n c h => by
 rw [Pat.ren, Pat.nodes, Pat.nodes, List.map_cons, Pat.ren_nodesL h, Pat.ren]
theorem Pat.ren_op (to : List Int) (p : Pat) : (p.ren to).op = p.op := by obtain ⟨o, a, t, v, s, n, c⟩ := p; rw [Pat.ren]; rfl
theorem Pat.ren_cond (to : List Int) (p : Pat) : (p.ren to).cond = if condF p.op then p.cond.rename to else p.cond := by obtain ⟨o, a, t, v, s, n, c⟩ := p; rw [Pat.ren]; rfl
theorem Pat.exsL_nodes {l : List Pat} (h : ∀ e ∈ l, e.exs = e.nodes.map Pat.cond) : Pat.exsL l = (Pat.nodesL l).map Pat.cond := by
 induction l with
 | nil => simp [Pat.exsL, Pat.nodesL]
 | cons e r ih => rw [Pat.exsL, Pat.nodesL, h e (by simp), ih fun e he => h e (by simp [he]), List.map_append]
theorem Pat.exs_nodes : ∀ p : Pat, p.exs = p.nodes.map Pat.cond := Pat.ind fun o a t v s n c h => by
 rw [Pat.exs, Pat.nodes, List.map_cons, Pat.exsL_nodes h]; rfl
theorem Pat.Sm_iff (p : Pat) : p.Sm ↔ p.nodes.length ≤ 1048576 ∧ ∀ q ∈ p.nodes, q.cond.Sm := by
 rw [Pat.Sm, Pat.nodes_len, Pat.exs_nodes]; simp
theorem Pat.ren_sm {to : List Int} {p : Pat} (h : p.Sm) : (p.ren to).Sm := by
 have h2 := (Pat.Sm_iff p).1 h
 refine (Pat.Sm_iff _).2 ⟨by rw [Pat.ren_nodes]; simpa using h2.1, fun q hq => ?_⟩
 rw [Pat.ren_nodes] at hq
 obtain ⟨q0, hq0, rfl⟩ := List.mem_map.1 hq
 rw [Pat.ren_cond]
 split
 · exact Ex.rename_sm (h2.2 q0 hq0)
 · exact h2.2 q0 hq0
theorem getD_el {α : Type} {l : List α} {k : Nat} (d : α) (h : k < l.length) : l.getD k d = l[k] := by
 rw [List.getD_eq_getElem?_getD, List.getElem?_eq_getElem h]; rfl
theorem scE_eq {p : Pat} (h : p.chk = 0) : p.scE = firstE condE (Pat.lf PlcS p) := by rw [Pat.scE, if_neg (fun k => k h)]
theorem scI_eq {p : Pat} (h : p.chk = 0) : p.scI = idxE condE (Pat.lf PlcS p) := by rw [Pat.scI, if_neg (fun k => k h)]
theorem rtE_eq {p : Pat} {l : List Ex} (h : p.chk = 0) (hl : l.length ≤ 256) : p.rtE l = firstE (retE p.retP) l := by
 rw [Pat.rtE, if_neg (fun k => k h), if_neg (by omega)]
theorem rtI_eq {p : Pat} {l : List Ex} (h : p.chk = 0) (hl : l.length ≤ 256) : p.rtI l = idxE (retE p.retP) l := by
 rw [Pat.rtI, if_neg (fun k => k h), if_neg (by omega)]
def belowE (e : Ex) : Ex := .mk 7 [e, .mk 0 [] 0 0 0 ⟨0, 1, ⟨#[]⟩⟩] 0 0 0 Vl0
def ev15 (v : Int) (a : Ex) : Pat := .mk 0 [] 0 v 0 0 a
def plus15 : Pat := .mk 4 [ev15 1 yesE] 0 0 0 0 Ex0
def ex15 (a c : Ex) : Pat := .mk 1 [ev15 0 a, plus15, ev15 2 c] 0 0 0 0 Ex0
def leafE (o v : Int) : Ex := .mk o [] v 0 0 Vl0
theorem uni_0 {a : List Int} (h : a.Pairwise (· < ·)) : uniI a [] = a := uni_ext h fun n => by simp
theorem uni_2 {a b : Int} (h : a < b) : uniI [a] [b] = [a, b] := uni_ext (by simp [h]) fun n => by simp
theorem uni_3 {a b c : Int} (h : a < b) (h2 : b < c) : uniI [a, b] [c] = [a, b, c] := uni_ext (by simp [h, h2]; omega) fun n => by simp; omega
theorem uni_1 (a : Int) : uniI [] [a] = [a] := uni_nil (by simp)
theorem ex15_nodes (a c : Ex) : (ex15 a c).nodes = [ex15 a c, ev15 0 a, plus15, ev15 1 yesE, ev15 2 c] := by
 simp [ex15, plus15, ev15, Pat.nodes, Pat.nodesL]
theorem ev15_nodes (v : Int) (a : Ex) : (ev15 v a).nodes = [ev15 v a] := by simp [ev15, Pat.nodes, Pat.nodesL]
theorem plus15_nodes : plus15.nodes = [plus15, ev15 1 yesE] := by simp [plus15, ev15, Pat.nodes, Pat.nodesL]
theorem bound_of {p : Pat} {l : List Int} (h : bndF p.nodes = l) (hl : l.Pairwise (· < ·)) : p.bound = l :=
 sorted_ext _ _ p.bound_nodup hl fun n => by rw [Pat.bound_mem, h]
theorem ev15_bound (v : Int) (a : Ex) : (ev15 v a).bound = [v] := bound_of (by rw [ev15_nodes]; simp [bndF, ev15, Pat.op, Pat.var]) (by simp)
theorem plus15_bound : plus15.bound = [1] := bound_of (by rw [plus15_nodes]; simp [bndF, plus15, ev15, Pat.op, Pat.var]) (by simp)
theorem ex15_bound (a c : Ex) : (ex15 a c).bound = [0, 1, 2] := bound_of (by rw [ex15_nodes]; simp [bndF, ex15, plus15, ev15, Pat.op, Pat.var]) (by simp)
theorem ev15_ones (v : Int) (a : Ex) : (ev15 v a).ones = [v] := by simp [ev15, Pat.ones, keepsF]
theorem plus15_ones : plus15.ones = [] := by simp [plus15, Pat.ones, keepsF]
theorem ex15_ones (a c : Ex) : (ex15 a c).ones = [0, 2] := by
 rw [ex15, Pat.ones, if_pos (by decide), if_neg (by decide)]
 simp only [Pat.onesL]
 rw [ev15_ones, plus15_ones, ev15_ones, uni_1, uni_0 (by simp), uni_2 (by omega)]
theorem ex15_lf (a c : Ex) : Pat.lf PlcS (ex15 a c) = [(ex15 a c, PlcS), (ev15 0 a, PlcS), (plus15, ⟨[0], [0], -1⟩), (ev15 1 yesE, ⟨[0], [0], -1⟩), (ev15 2 c, ⟨[0, 1], [0], -1⟩)] := by
 have e1 : PlcS.plus (ev15 0 a) = ⟨[0], [0], -1⟩ := by simp only [Plc.plus, PlcS]; rw [ev15_bound, ev15_ones, uni_1]
 have e2 : Plc.plus ⟨[0], [0], -1⟩ plus15 = ⟨[0, 1], [0], -1⟩ := by simp only [Plc.plus]; rw [plus15_bound, plus15_ones, uni_2 (by omega), uni_0 (by simp)]
 have e3 : ∀ l v a, Pat.lf l (ev15 v a) = [(ev15 v a, l)] := fun l v a => by simp [ev15, Pat.lf, Pat.lfL]
 have e4 : ∀ l, Pat.lf l plus15 = [(plus15, l), (ev15 1 yesE, l)] := fun l => by
  rw [plus15, Pat.lf, Pat.lfL, Pat.lfL, e3]; rfl
 rw [ex15, Pat.lf, Pat.lfL, Pat.lfL, Pat.lfL, Pat.lfL, show decide ((1 : Int) = 1) = true from rfl, if_pos rfl, if_pos rfl, e1, e2, e3, e4, e3]
 rfl
theorem own_ev (l : Plc) (v : Int) (a : Ex) : (ev15 v a).own l = ⟨uniI l.us [v], uniI l.si [v], -1⟩ := by
 unfold Pat.own; rw [if_pos (show (ev15 v a).op = 0 from rfl)]; rfl
theorem own1 (a : Ex) : (ev15 0 a).own PlcS = ⟨[0], [0], -1⟩ := by rw [own_ev]; simp only [PlcS]; rw [uni_1]
theorem own3 (a : Ex) : (ev15 1 a).own ⟨[0], [0], -1⟩ = ⟨[0, 1], [0, 1], -1⟩ := by rw [own_ev, uni_2 (by omega)]
theorem own4 (a : Ex) : (ev15 2 a).own ⟨[0, 1], [0], -1⟩ = ⟨[0, 1, 2], [0, 2], -1⟩ := by rw [own_ev, uni_3 (by omega) (by omega), uni_2 (by omega)]
theorem leaf_chk (o v : Int) (ho : o = 1 ∨ o = 2 ∨ o = 3) (hv : 0 ≤ v ∧ v < 16) : (leafE o v).chk = 0 := by
 have h1 : (leafE o v).cnt = 1 := by simp [leafE, Ex.cnt, Ex.cntL]
 have h2 : (leafE o v).dep = 1 := by simp [leafE, Ex.dep, Ex.depL]
 have h3 : (leafE o v).nodes = [leafE o v] := by simp [leafE, Ex.nodes, Ex.nodesL]
 rw [Ex.chk, h1, h2, h3]
 rcases ho with rfl | rfl | rfl <;> simp [firstE, Ex.nodeE, leafE, Ex.op, Ex.args, Ex.var, Ex.fld, Ex.kind, Ex.val, Ex.formB, arityB, arityN, usesV, usesF] <;> omega
theorem below_nodes (o v : Int) : (belowE (leafE o v)).nodes = [belowE (leafE o v), leafE o v, .mk 0 [] 0 0 0 ⟨0, 1, ⟨#[]⟩⟩] := by
 simp [belowE, leafE, Ex.nodes, Ex.nodesL]
theorem below_chk (o v : Int) (ho : o = 1 ∨ o = 2 ∨ o = 3) (hv : 0 ≤ v ∧ v < 16) : (belowE (leafE o v)).chk = 0 := by
 have h1 : (belowE (leafE o v)).cnt = 3 := by simp [belowE, leafE, Ex.cnt, Ex.cntL]
 have h2 : (belowE (leafE o v)).dep = 2 := by simp [belowE, leafE, Ex.dep, Ex.depL]
 have hz : (⟨#[]⟩ : ByteArray).size = 0 := rfl
 have n1 : (belowE (leafE o v)).nodeE = 0 := by
  simp [Ex.nodeE, belowE, Ex.op, Ex.args, Ex.var, Ex.fld, Ex.kind, Ex.val, Ex.formB, arityB, arityN, usesV, usesF]
 have n3 : (Ex.mk 0 [] 0 0 0 ⟨0, 1, ⟨#[]⟩⟩).nodeE = 0 := by
  simp [hz, Ex.nodeE, Ex.op, Ex.args, Ex.var, Ex.fld, Ex.kind, Ex.val, Ex.consE, Ex.formB, arityB, arityN, usesV, usesF, Vl.chk, Vl.sizeE]
 have n2 : (leafE o v).nodeE = 0 := by
  have := leaf_chk o v ho hv
  have h1 : (leafE o v).cnt = 1 := by simp [leafE, Ex.cnt, Ex.cntL]
  have h2 : (leafE o v).dep = 1 := by simp [leafE, Ex.dep, Ex.depL]
  have h3 : (leafE o v).nodes = [leafE o v] := by simp [leafE, Ex.nodes, Ex.nodesL]
  rw [Ex.chk, h1, h2, h3, if_neg (by decide), if_neg (by decide), firstE] at this
  by_cases h : (leafE o v).nodeE = 0
  · exact h
  · rw [if_pos h] at this; exact this
 rw [Ex.chk, h1, h2, below_nodes, if_neg (by decide), if_neg (by decide)]
 exact firstE_ok fun q hq => by
  simp only [List.mem_cons, List.not_mem_nil, or_false] at hq
  rcases hq with rfl | rfl | rfl
  · exact n1
  · exact n2
  · exact n3
theorem below_sm (o v : Int) : (belowE (leafE o v)).Sm := by simp [Ex.Sm, belowE, leafE, Ex.cnt, Ex.cntL]
theorem leaf_sm (o v : Int) : (leafE o v).Sm := by simp [Ex.Sm, leafE, Ex.cnt, Ex.cntL]
theorem yes15_sm : yesE.Sm := by simp [Ex.Sm, yesE, Ex.cnt, Ex.cntL]
theorem yes15_chk : yesE.chk = 0 := by
 have h1 : yesE.cnt = 1 := by simp [yesE, Ex.cnt, Ex.cntL]
 have h2 : yesE.dep = 1 := by simp [yesE, Ex.dep, Ex.depL]
 have h3 : yesE.nodes = [yesE] := by simp [yesE, Ex.nodes, Ex.nodesL]
 rw [Ex.chk, h1, h2, h3]
 have hz : (⟨#[]⟩ : ByteArray).size = 0 := rfl
 simp [hz, firstE, Ex.nodeE, yesE, Ex.op, Ex.args, Ex.var, Ex.fld, Ex.kind, Ex.val, Ex.consE, Ex.formB, arityB, arityN, usesV, usesF, Vl.chk, Vl.sizeE]
theorem ex15_sm {a c : Ex} (ha : a.Sm) (hc : c.Sm) : (ex15 a c).Sm := by
 refine (Pat.Sm_iff _).2 ⟨by rw [ex15_nodes]; simp, ?_⟩
 rw [ex15_nodes]
 intro q hq
 have h0 : Ex0.Sm := by simp [Ex.Sm, Ex0, Ex.cnt, Ex.cntL]
 simp only [List.mem_cons, List.not_mem_nil, or_false] at hq
 rcases hq with rfl | rfl | rfl | rfl | rfl
 · exact h0
 · exact ha
 · exact h0
 · exact yes15_sm
 · exact hc
theorem ev15_node (v : Int) (hv : 0 ≤ v ∧ v ≤ 15) {a : Ex} (ha : a.chk = 0) : (ev15 v a).nodeE = 0 := by
 simp [Pat.nodeE, ev15, Pat.op, Pat.args, Pat.ty, Pat.var, Pat.scope, Pat.span, Pat.cond, leastF, mostF, typedF, condF, scopeF, spanF, ha]
 omega
theorem ex15_chk {a c : Ex} (ha : a.chk = 0) (hc : c.chk = 0) : (ex15 a c).chk = 0 := by
 have h0 : ∀ q ∈ (ex15 a c).nodes, q.nodeE = 0 := by
  rw [ex15_nodes]
  intro q hq
  simp only [List.mem_cons, List.not_mem_nil, or_false] at hq
  rcases hq with rfl | rfl | rfl | rfl | rfl
  · simp [Pat.nodeE, ex15, Pat.op, Pat.args, Pat.ty, Pat.var, Pat.scope, Pat.span, Pat.cond, leastF, mostF, typedF, condF, scopeF, spanF]
  · exact ev15_node _ (by omega) ha
  · simp [Pat.nodeE, plus15, Pat.op, Pat.args, Pat.ty, Pat.var, Pat.scope, Pat.span, Pat.cond, leastF, mostF, typedF, condF, scopeF, spanF]
  · exact ev15_node _ (by omega) yes15_chk
  · exact ev15_node _ (by omega) hc
 have h1 : (ex15 a c).cnt = 5 := by rw [← Pat.nodes_len, ex15_nodes]; rfl
 have h2 : (ex15 a c).dep = 3 := by simp [ex15, plus15, ev15, Pat.dep, Pat.depL]
 have h3 : (ex15 a c).chkR = 0 := by
  rw [Pat.chkR, h1, h2, if_neg (by decide), if_neg (by decide)]
  exact firstE_ok h0
 have h4 : (ex15 a c).wholeE = 0 := by
  rw [Pat.wholeE, h3, ex15_nodes]
  simp [firstE, ex15, plus15, ev15, Pat.op]
 rw [Pat.chk, h4, ex15_nodes]
 simp [cfold, cstep, ex15, plus15, ev15, Pat.op, Pat.var, Pat.scope, typedF, scopeF]
theorem ex15_at4 {a c : Ex} (ha : a.chk = 0) (hc : c.chk = 0) : (ex15 a c).atE 4 = 0 ∧ (ex15 a c).atP 4 = ⟨[0, 1, 2], [0, 2], -1⟩ := by
 have h1 : (ex15 a c).atE 4 = 0 := by
  rw [Pat.atE, ex15_chk ha hc, Pat.nodeAt, ex15_nodes]; simp [ev15, Pat.op, testsF]
 refine ⟨h1, ?_⟩
 rw [Pat.atP, h1, if_pos rfl, ex15_lf]
 exact own4 c
theorem ex15_at3 {a c : Ex} (ha : a.chk = 0) (hc : c.chk = 0) : (ex15 a c).atE 3 = 0 ∧ (ex15 a c).atP 3 = ⟨[0, 1], [0, 1], -1⟩ := by
 have h1 : (ex15 a c).atE 3 = 0 := by
  rw [Pat.atE, ex15_chk ha hc, Pat.nodeAt, ex15_nodes]; simp [ev15, Pat.op, testsF]
 refine ⟨h1, ?_⟩
 rw [Pat.atP, h1, if_pos rfl, ex15_lf]
 exact own3 yesE
theorem yes_fol (s : Plc) : yesE.fol s = 0 := by
 have h3 : yesE.nodes = [yesE] := by simp [yesE, Ex.nodes, Ex.nodesL]
 rw [Ex.fol, h3]; simp [firstE, folE, yesE, Ex.op]
theorem below_fol (s : Plc) (o v : Int) : (belowE (leafE o v)).fol s = folE s (leafE o v) := by
 have e1 : folE s (belowE (leafE o v)) = 0 := by simp [folE, belowE, Ex.op]
 have e3 : folE s (.mk 0 [] 0 0 0 ⟨0, 1, ⟨#[]⟩⟩) = 0 := by simp [folE, Ex.op]
 rw [Ex.fol, below_nodes]
 simp only [firstE]
 rw [e1, e3]
 generalize folE s (leafE o v) = z
 by_cases h : z = 0 <;> simp [h]
theorem leaf_fol (s : Plc) (o v : Int) : (leafE o v).fol s = folE s (leafE o v) := by
 have h3 : (leafE o v).nodes = [leafE o v] := by simp [leafE, Ex.nodes, Ex.nodesL]
 rw [Ex.fol, h3]
 simp only [firstE]
 generalize folE s (leafE o v) = z
 by_cases h : z = 0 <;> simp [h]
theorem ex15_sc {a c : Ex} (ha : a.chk = 0) (hc : c.chk = 0) : (ex15 a c).scE = (if a.fol ⟨[0], [0], -1⟩ ≠ 0 then a.fol ⟨[0], [0], -1⟩ else c.fol ⟨[0, 1, 2], [0, 2], -1⟩) ∧
 (ex15 a c).scI = (if a.fol ⟨[0], [0], -1⟩ ≠ 0 then 1 else if c.fol ⟨[0, 1, 2], [0, 2], -1⟩ ≠ 0 then 4 else 0) := by
 have c0 : condE (ex15 a c, PlcS) = 0 := by simp [condE, ex15, Pat.op, testsF]
 have c1 : condE (ev15 0 a, PlcS) = a.fol ⟨[0], [0], -1⟩ := by
  unfold condE; rw [if_pos (by rfl)]; show a.fol ((ev15 0 a).own PlcS) = _; rw [own1]
 have c2 : condE (plus15, ⟨[0], [0], -1⟩) = 0 := by simp [condE, plus15, Pat.op, testsF]
 have c3 : condE (ev15 1 yesE, ⟨[0], [0], -1⟩) = 0 := by
  unfold condE; rw [if_pos (by rfl)]; exact yes_fol _
 have c4 : condE (ev15 2 c, ⟨[0, 1], [0], -1⟩) = c.fol ⟨[0, 1, 2], [0, 2], -1⟩ := by
  unfold condE; rw [if_pos (by rfl)]; show c.fol ((ev15 2 c).own _) = _; rw [own4]
 have hk := ex15_chk ha hc
 rw [scE_eq hk, scI_eq hk, ex15_lf]
 simp only [firstE, idxE, c0, c1, c2, c3, c4]
 generalize a.fol ⟨[0], [0], -1⟩ = x
 generalize c.fol ⟨[0, 1, 2], [0, 2], -1⟩ = y
 by_cases hx : x = 0 <;> by_cases hy : y = 0 <;> simp [hx, hy]
theorem sc_a : (ex15 yesE (belowE (leafE 1 1))).scE = 11 ∧ (ex15 yesE (belowE (leafE 1 1))).scI = 4 := by
 obtain ⟨h1, h2⟩ := ex15_sc yes15_chk (below_chk 1 1 (by omega) (by omega))
 rw [yes_fol, below_fol, show folE ⟨[0, 1, 2], [0, 2], -1⟩ (leafE 1 1) = 11 by simp [folE, leafE, Ex.op, Ex.var]] at h1 h2
 exact ⟨h1, h2⟩
theorem sc_b : (ex15 (belowE (leafE 1 2)) yesE).scE = 10 ∧ (ex15 (belowE (leafE 1 2)) yesE).scI = 1 := by
 obtain ⟨h1, h2⟩ := ex15_sc (below_chk 1 2 (by omega) (by omega)) yes15_chk
 rw [below_fol, show folE ⟨[0], [0], -1⟩ (leafE 1 2) = 10 by simp [folE, leafE, Ex.op, Ex.var]] at h1 h2
 exact ⟨h1, h2⟩
theorem sc_c : (ex15 yesE (belowE (leafE 3 1))).scE = 0 ∧ (ex15 yesE (belowE (leafE 3 1))).scI = 0 := by
 obtain ⟨h1, h2⟩ := ex15_sc yes15_chk (below_chk 3 1 (by omega) (by omega))
 rw [yes_fol, below_fol, show folE ⟨[0, 1, 2], [0, 2], -1⟩ (leafE 3 1) = 0 by simp [folE, leafE, Ex.op, Ex.var]] at h1 h2
 exact ⟨h1, h2⟩
theorem rt_a : (ex15 yesE yesE).rtE [leafE 1 0, leafE 3 1, leafE 2 1] = 11 ∧ (ex15 yesE yesE).rtI [leafE 1 0, leafE 3 1, leafE 2 1] = 2 := by
 have hk := ex15_chk yes15_chk yes15_chk
 have hp : (ex15 yesE yesE).retP = ⟨[0, 1, 2], [0, 2], -1⟩ := by rw [Pat.retP, ex15_bound, ex15_ones]
 have r1 : retE ⟨[0, 1, 2], [0, 2], -1⟩ (leafE 1 0) = 0 := by
  rw [retE, leaf_chk _ _ (by omega) (by omega), leaf_fol]; simp [folE, leafE, Ex.op, Ex.var]
 have r2 : retE ⟨[0, 1, 2], [0, 2], -1⟩ (leafE 3 1) = 0 := by
  rw [retE, leaf_chk _ _ (by omega) (by omega), leaf_fol]; simp [folE, leafE, Ex.op, Ex.var]
 have r3 : retE ⟨[0, 1, 2], [0, 2], -1⟩ (leafE 2 1) = 11 := by
  rw [retE, leaf_chk _ _ (by omega) (by omega), leaf_fol]; simp [folE, leafE, Ex.op, Ex.var]
 rw [rtE_eq hk (by decide), rtI_eq hk (by decide), hp]
 simp [firstE, idxE, r1, r2, r3]
theorem P_truth : PCall EE 25 [] yesE.enc := by
 have h1 : PCall EE 52 [bool true] (.agg [int 1, int 1, str ⟨#[]⟩]) := P_Flag true
 rw [yesE.enc_eq]
 refine wordsN ?_; unhygienic intros
 refine fn_body (fn := Tryd.f25) (n := 3) (ac := Trydc25) (rvs := [.cell 0 8 true]) rfl (by decide) Trydp25 rfl rfl rfl ?_
 refine goA 60 ?_
 refine oPA h1 ?_
 refine goA 60 ?_
 refine fn_ret rfl rfl ?_
 exact ⟨[.gone], ⟨trivial, trivial⟩, .agg' ⟨.refl _, .nilI _, .refl _, .refl _, .refl _, .refl _, .refl _, .refl _, trivial⟩⟩
theorem P_below (e : Ex) : PCall EE 33 [e.enc] (belowE e).enc := by
 have hR : (belowE e).enc = .agg [int 7, .isl 8 [e.enc, .agg [int 0, .isl 8 [], int 0, int 0, int 0, int 0, int 1, str ⟨#[]⟩]], int 0, int 0, int 0, int 0, int 0, str ⟨#[]⟩] := by
  simp only [belowE, Ex.enc_mk, mapE_eq, List.map_cons, List.map_nil, Vl0]
 rw [hR]
 have c1 := Ex.closed e
 obtain ⟨eO, eA, eV, eF, eK, eXk, eXn, eXt, hx1⟩ := Ex.form e
 rw [hx1] at c1 ⊢
 clear hR hx1
 refine PCall.weak2 (v := .agg [int 7, .isl 8 [.agg [int eO, .isl 8 eA, int eV, int eF, int eK, int eXk, int eXn, str eXt], .agg [int 0, .val (.slice none 0 0), int 0, int 0, int 0, int 0, int 1, str ⟨#[]⟩]], int 0, int 0, int 0, int 0, int 0, str ⟨#[]⟩]) ?_ ?_
 rotate_left
 · exact .agg' ⟨.refl _, .isl' ⟨.refl _, ⟨.refl _, .nilI _, .refl _, .refl _, .refl _, .refl _, .refl _, .refl _, trivial⟩, trivial⟩, .refl _, .refl _, .refl _, .refl _, .refl _, .refl _, trivial⟩
 refine wordsN ?_; unhygienic intros
 refine fn_body (fn := Tryd.f33) (n := 8) (ac := Trydc33) (rvs := [.cell 2 8 true]) rfl (by decide) Trydp33 rfl rfl rfl ?_
 refine goA 60 ?_
 refine fn_ret rfl rfl ?_
 have hp1 : ∀ σ, AV.sub σ (.agg [int eO, .isl 8 eA, int eV, int eF, int eK, int eXk, int eXn, str eXt]) = .agg [int eO, .isl 8 eA, int eV, int eF, int eK, int eXk, int eXn, str eXt] := fun σ => sub_closed _ _ _ (Nat.le_refl _) c1
 exact ⟨[.gone, .gone, .isl 8 [.agg [int eO, .isl 8 eA, int eV, int eF, int eK, int eXk, int eXn, str eXt], .agg [int 0, .val (.slice none 0 0), int 0, int 0, int 0, int 0, int 1, str ⟨#[]⟩]]], ⟨trivial, trivial, ⟨_, rfl, by simp only [AV.subL, hp1]; rfl⟩, trivial⟩, .of rfl⟩
theorem P_ex15 (a c : Ex) : PCall EE 32 [a.enc, c.enc] (ex15 a c).enc := by
 have h1 := P_truth
 rw [yesE.enc_eq] at h1
 have hR : (ex15 a c).enc = .agg [int 1, .isl 14 [(Pat.mk 0 [] 0 0 0 0 a).enc, .agg [int 4, .isl 14 [.agg [int 0, .isl 14 [], int 0, int 1, int 0, int 0, int 0, .isl 8 [], int 0, int 0, int 0, int 1, int 1, str ⟨#[]⟩]], int 0, int 0, int 0, int 0, int 0, .isl 8 [], int 0, int 0, int 0, int 0, int 0, str ⟨#[]⟩], (Pat.mk 0 [] 0 2 0 0 c).enc], int 0, int 0, int 0, int 0, int 0, .isl 8 [], int 0, int 0, int 0, int 0, int 0, str ⟨#[]⟩] := by
  simp only [ex15, plus15, ev15, Ex0, yesE, Pat.enc_mk, mapE_eq, List.map_cons, List.map_nil, Vl0]
 rw [hR]
 have c1 := Ex.closed a
 have c2 := Ex.closed c
 obtain ⟨aO, aA, aV, aF, aK, aXk, aXn, aXt, hx1⟩ := Ex.form a
 obtain ⟨cO, cA, cV, cF, cK, cXk, cXn, cXt, hx2⟩ := Ex.form c
 have e1 := Pat.enc_c 0 [] 0 0 0 0 hx1
 have e2 := Pat.enc_c 0 [] 0 2 0 0 hx2
 have hnil : mapE Pat.enc [] = [] := by rw [mapE_eq]; rfl
 rw [hnil] at e1 e2
 simp only [List.cons_append, List.nil_append] at e1 e2
 rw [hx1] at c1 ⊢
 rw [hx2] at c2 ⊢
 rw [e1, e2]
 clear hR hx1 hx2 e1 e2 hnil
 refine PCall.weak2 (v := .agg [int 1, .isl 14 [.agg [int 0, .val (.slice none 0 0), int 0, int 0, int 0, int 0, int aO, .isl 8 aA, int aV, int aF, int aK, int aXk, int aXn, str aXt], .agg [int 4, .isl 14 [.agg [int 0, .val (.slice none 0 0), int 0, int 1, int 0, int 0, int 0, .isl 8 [], int 0, int 0, int 0, int 1, int 1, str ⟨#[]⟩]], int 0, int 0, int 0, int 0, int 0, .val (.slice none 0 0), int 0, int 0, int 0, int 0, int 0, str ⟨#[]⟩], .agg [int 0, .val (.slice none 0 0), int 0, int 2, int 0, int 0, int cO, .isl 8 cA, int cV, int cF, int cK, int cXk, int cXn, str cXt]], int 0, int 0, int 0, int 0, int 0, .val (.slice none 0 0), int 0, int 0, int 0, int 0, int 0, str ⟨#[]⟩]) ?_ ?_
 rotate_left
 · exact .agg' ⟨.refl _, .isl' ⟨⟨.refl _, .nilI _, .refl _, .refl _, .refl _, .refl _, .refl _, .refl _, .refl _, .refl _, .refl _, .refl _, .refl _, .refl _, trivial⟩, ⟨.refl _, .isl' ⟨⟨.refl _, .nilI _, .refl _, .refl _, .refl _, .refl _, .refl _, .refl _, .refl _, .refl _, .refl _, .refl _, .refl _, .refl _, trivial⟩, trivial⟩, .refl _, .refl _, .refl _, .refl _, .refl _, .nilI _, .refl _, .refl _, .refl _, .refl _, .refl _, .refl _, trivial⟩, ⟨.refl _, .nilI _, .refl _, .refl _, .refl _, .refl _, .refl _, .refl _, .refl _, .refl _, .refl _, .refl _, .refl _, .refl _, trivial⟩, trivial⟩, .refl _, .refl _, .refl _, .refl _, .refl _, .nilI _, .refl _, .refl _, .refl _, .refl _, .refl _, .refl _, trivial⟩
 refine wordsN ?_; unhygienic intros
 refine fn_body (fn := Tryd.f32) (n := 17) (ac := Trydc32) (rvs := [.cell 4 14 true]) rfl (by decide) Trydp32 rfl rfl rfl ?_
 refine goA 60 ?_
 refine oPA h1 ?_
 refine goA 60 ?_
 refine fn_ret rfl rfl ?_
 have ka : (AV.agg [int 0, .val (.slice none 0 0), int 0, int 0, int 0, int 0, int aO, .isl 8 aA, int aV, int aF, int aK, int aXk, int aXn, str aXt]).closed = true := by simpa [AV.closed, AV.closedL] using c1
 have kc : (AV.agg [int 0, .val (.slice none 0 0), int 0, int 2, int 0, int 0, int cO, .isl 8 cA, int cV, int cF, int cK, int cXk, int cXn, str cXt]).closed = true := by simpa [AV.closed, AV.closedL] using c2
 have hp1 : ∀ σ, AV.sub σ (.agg [int 0, .val (.slice none 0 0), int 0, int 0, int 0, int 0, int aO, .isl 8 aA, int aV, int aF, int aK, int aXk, int aXn, str aXt]) = .agg [int 0, .val (.slice none 0 0), int 0, int 0, int 0, int 0, int aO, .isl 8 aA, int aV, int aF, int aK, int aXk, int aXn, str aXt] := fun σ => sub_closed _ _ _ (Nat.le_refl _) ka
 have hp2 : ∀ σ, AV.sub σ (.agg [int 0, .val (.slice none 0 0), int 0, int 2, int 0, int 0, int cO, .isl 8 cA, int cV, int cF, int cK, int cXk, int cXn, str cXt]) = .agg [int 0, .val (.slice none 0 0), int 0, int 2, int 0, int 0, int cO, .isl 8 cA, int cV, int cF, int cK, int cXk, int cXn, str cXt] := fun σ => sub_closed _ _ _ (Nat.le_refl _) kc
 exact ⟨[.gone, .gone, .gone, .isl 14 [.agg [int 0, .val (.slice none 0 0), int 0, int 1, int 0, int 0, int 0, .isl 8 [], int 0, int 0, int 0, int 1, int 1, str ⟨#[]⟩]], .gone, .isl 14 [.agg [int 0, .val (.slice none 0 0), int 0, int 0, int 0, int 0, int aO, .isl 8 aA, int aV, int aF, int aK, int aXk, int aXn, str aXt], .agg [int 4, .isl 14 [.agg [int 0, .val (.slice none 0 0), int 0, int 1, int 0, int 0, int 0, .isl 8 [], int 0, int 0, int 0, int 1, int 1, str ⟨#[]⟩]], int 0, int 0, int 0, int 0, int 0, .val (.slice none 0 0), int 0, int 0, int 0, int 0, int 0, str ⟨#[]⟩], .agg [int 0, .val (.slice none 0 0), int 0, int 2, int 0, int 0, int cO, .isl 8 cA, int cV, int cF, int cK, int cXk, int cXn, str cXt]]], ⟨trivial, trivial, trivial, ⟨_, rfl, by rfl⟩, trivial, ⟨_, rfl, by simp only [AV.subL, hp1, hp2]; rfl⟩, trivial⟩, .of rfl⟩
theorem O_Grow (n : Nat) (hn : n < 500000000000) : OCall EE 92 [.val (.slice none 0 0), int n] (.sl 0 1 0 0) [.arr 1 []] := by
 have hn0 : (0 : Int) ≤ n := by omega
 have hn1 : (n : Int) < 500000000000 := by omega
 generalize (n : Int) = m at hn0 hn1 ⊢
 refine wordsN ?_; unhygienic intros
 refine ocall_body (fn := Tryd.f92) (n := 27) (ac := Trydc92) (rvs := [.t 4]) rfl (by decide) Trydp92 rfl rfl rfl ?_
 refine goA 0 ?_
 refine on_cond rfl (fun h1 => ?_) (fun h1 => ?_)
 · exfalso
   simp [ee] at h1
   omega
 have hs0 : iSub .i64 (Int.ofNat 0) (Int.ofNat 0) = 0 := by rw [e_iSub]; simp [Wd.iSub, IntKind.wrap_i64]
 have hs : iSub .i64 m 0 = m := by
  rw [e_iSub]; simp [Wd.iSub, IntKind.wrap_i64]; omega
 refine goB hX 0 (by conv => lhs; cbv; simp only [hs0,hs]; cbv) ?_
 refine on_cond rfl (fun h2 => ?_) (fun h2 => ?_)
 · simp [ee] at h2
   refine goA 0 ?_
   exact o_ret (F2 := [(4, .sl 0 1 0 0)]) (H2 := [.arr 1 []]) (.trans (ent_trunc (b := 0) (m := 0) rfl (by simp)) (ent_sub [.to 0] [some 0] ⟨⟨by simp, rfl⟩, trivial⟩ ⟨osrc_arr (b := 0) rfl rfl rfl rfl rfl, trivial⟩ ⟨.of (by simp only [ee]; rfl), trivial⟩)) rfl ⟨rfl, rfl⟩
 · simp [ee] at h2
   refine goA 0 ?_
   exact o_ret (F2 := [(4, .sl 0 1 0 0)]) (H2 := [.arr 1 []]) (ent_sub [] [none] trivial ⟨.none 1 rfl, trivial⟩ ⟨.nilS 0 1 0 (by simp), trivial⟩) rfl ⟨rfl, rfl⟩
theorem O_Concat (a b : List Int) (ha : a.length < 1048577) (hb : b.length < 1048577) : OCall EE 76 [.isl 1 [.isl 1 (mapE int a), .isl 1 (mapE int b)]] (.sl 0 1 0 (a ++ b).length) [.arr 1 (mapE int (a ++ b))] := by
 have hg := O_Grow (a.length + b.length) (by omega)
 have hal : (mapE int a).length = a.length := mapE_len ..
 have hbl : (mapE int b).length = b.length := mapE_len ..
 have hac := closedL_int a
 have hbc := closedL_int b
 have haf := fitInt a
 have hbf := fitInt b
 have hab : mapE int (a ++ b) = mapE int a ++ mapE int b := by rw [mapE_eq, mapE_eq, mapE_eq, List.map_append]
 rw [hab]
 obtain ⟨al, hal2⟩ : ∃ z : Int, z = a.length := ⟨_, rfl⟩
 obtain ⟨tl, htl2⟩ : ∃ z : Int, z = ((a.length + b.length : Nat) : Int) := ⟨_, rfl⟩
 obtain ⟨la, hla⟩ : ∃ z : Nat, z = a.length := ⟨_, rfl⟩
 rw [← htl2] at hg
 obtain ⟨lab, hlab⟩ : ∃ z : Nat, z = (a ++ b).length := ⟨_, rfl⟩
 rw [← hlab]
 rw [List.length_append] at hlab
 generalize hea : mapE int a = ea at *
 generalize heb : mapE int b = eb at *
 obtain ⟨eab, heab⟩ : ∃ z, z = ea ++ eb := ⟨_, rfl⟩
 rw [← heab]
 have habc : AV.closedL eab = true := by rw [heab]; exact closedL_append hac hbc
 have hablen : eab.length = lab := by rw [heab, List.length_append]; omega
 refine wordsN ?_; unhygienic intros
 have hi0 : iAdd .i64 0 1 = 1 := by rw [add_w e_iAdd (by omega) (by omega)]; rfl
 have hi1 : iAdd .i64 1 1 = 2 := by rw [add_w e_iAdd (by omega) (by omega)]; rfl
 have hl2 : lenA [.isl 1 ea, .isl 1 eb] = 2 := by simp only [ee]; rfl
 have ht0 : atA [.isl 1 ea, .isl 1 eb] 0 = .isl 1 ea := by simp only [ee]; rfl
 have ht1 : atA [.isl 1 ea, .isl 1 eb] 1 = .isl 1 eb := by simp only [ee]; rfl
 have c0 : iLt 0 2 = true := by simp only [ee]; rfl
 have c1 : iLt 1 2 = true := by simp only [ee]; rfl
 have c2 : iLt 2 2 = false := by simp only [ee]; rfl
 have s1 : iAdd .i64 0 (lenA ea) = al := by rw [add_w e_iAdd (by simp only [ee]; omega) (by simp only [ee]; omega)]; simp only [ee]; omega
 have s2 : iAdd .i64 al (lenA eb) = tl := by rw [add_w e_iAdd (by simp only [ee]; omega) (by simp only [ee]; omega)]; simp only [ee]; omega
 have n1 : iLt al 0 = false := by simp only [ee]; simp; omega
 have n2 : iLt tl 0 = false := by simp only [ee]; simp; omega
 have hcI : (AV.isl 1 [.isl 1 ea, .isl 1 eb]).closed = true := by simp [AV.closed, AV.closedL, hac, hbc]
 have haI : (AV.isl 1 ea).closed = true := by simp [AV.closed, hac]
 have hbI : (AV.isl 1 eb).closed = true := by simp [AV.closed, hbc]
 have u1 : catA (dropA [] 0) ea = ea := by simp only [ee]; rfl
 have u2 : addN 0 (lenN ea) = la := by simp only [ee]; omega
 have u3 : catA (dropA ea 0) eb = eab := by simp only [ee]; rw [heab]; rfl
 have u4 : addN la (lenN eb) = lab := by simp only [ee]; omega
 refine ocall_body (fn := Tryd.f76) (n := 36) (ac := Trydc76) (rvs := [.t 2]) rfl (by decide) Trydp76 rfl rfl rfl ?_
 refine goB hX 0 (by conv => lhs; cbv; try simp only [hl2]; cbv; try simp only [hl2]; cbv; try simp only [hl2]; cbv; try simp only [hl2]; cbv) ?_
 refine goA 60 ?_
 refine on_loopP (ι := Int × Int) (fun p => ([(11, int p.1), (10, int 2), (9, .isl 1 [.isl 1 ea, .isl 1 eb]), (0, .isl 1 [.isl 1 ea, .isl 1 eb]), (3, int p.2)], [])) (fun p => (p.1 = 0 ∧ p.2 = 0) ∨ (p.1 = 1 ∧ p.2 = al) ∨ (p.1 = 2 ∧ p.2 = tl)) (fun p => (2 - p.1).toNat) (0, 0) (.inl ⟨rfl, rfl⟩) ?_ ?_
 · exact (ent_sub [] [] trivial trivial ⟨.refl _, .refl _, .cl hcI, .cl hcI, .refl _, trivial⟩)
 rintro ⟨i, t⟩ gi
 dsimp only at gi ⊢
 rcases gi with ⟨gi, gt⟩ | ⟨gi, gt⟩ | ⟨gi, gt⟩
 · rw [gi, gt]
   refine goB hX 0 (by conv => lhs; cbv; try simp only [c0, hi0, ht0, s1, n1]; cbv; try simp only [c0, hi0, ht0, s1, n1]; cbv; try simp only [c0, hi0, ht0, s1, n1]; cbv; try simp only [c0, hi0, ht0, s1, n1]; cbv) ?_
   refine goB hX 1 (by conv => lhs; cbv; try simp only [c0, hi0, ht0, s1, n1]; cbv; try simp only [c0, hi0, ht0, s1, n1]; cbv; try simp only [c0, hi0, ht0, s1, n1]; cbv; try simp only [c0, hi0, ht0, s1, n1]; cbv) ?_
   refine goA 60 ?_
   refine loopP_next (1, al) (.inr (.inl ⟨rfl, rfl⟩)) (by simp) (ent_sub [] [] trivial trivial ⟨.of (congrArg int (by assumption)), .refl _, .cl hcI, .cl hcI, .refl _, trivial⟩)
 · rw [gi, gt]
   refine goB hX 0 (by conv => lhs; cbv; try simp only [c1, hi1, ht1, s2, n2]; cbv; try simp only [c1, hi1, ht1, s2, n2]; cbv; try simp only [c1, hi1, ht1, s2, n2]; cbv; try simp only [c1, hi1, ht1, s2, n2]; cbv) ?_
   refine goB hX 1 (by conv => lhs; cbv; try simp only [c1, hi1, ht1, s2, n2]; cbv; try simp only [c1, hi1, ht1, s2, n2]; cbv; try simp only [c1, hi1, ht1, s2, n2]; cbv; try simp only [c1, hi1, ht1, s2, n2]; cbv) ?_
   refine goA 60 ?_
   refine loopP_next (2, tl) (.inr (.inr ⟨rfl, rfl⟩)) (by simp) (ent_sub [] [] trivial trivial ⟨.of (congrArg int (by assumption)), .refl _, .cl hcI, .cl hcI, .refl _, trivial⟩)
 rw [gi, gt]
 clear gi gt i t
 refine goB hX 0 (by conv => lhs; cbv; try simp only [c2]; cbv; try simp only [c2]; cbv; try simp only [c2]; cbv; try simp only [c2]; cbv) ?_
 refine goA 60 ?_
 refine loopP_exit ?_
 refine goA 60 ?_
 refine on_ocall (args := [.val (.slice none 0 0), int tl]) (v' := .sl 0 1 0 0) (H' := [.arr 1 []]) rfl rfl rfl hg rfl rfl rfl ?_
 refine goB hX 0 (by conv => lhs; cbv; try simp only [hl2]; cbv; try simp only [hl2]; cbv; try simp only [hl2]; cbv; try simp only [hl2]; cbv) ?_
 refine goA 60 ?_
 refine on_loopP (ι := Int × Nat × List AV) (fun p => ([(27, int p.1), (26, int 2), (25, .isl 1 [.isl 1 ea, .isl 1 eb]), (6, .sl 0 1 0 p.2.1)], [.arr 1 p.2.2])) (fun p => (p.1 = 0 ∧ p.2.1 = 0 ∧ p.2.2 = []) ∨ (p.1 = 1 ∧ p.2.1 = la ∧ p.2.2 = ea) ∨ (p.1 = 2 ∧ p.2.1 = lab ∧ p.2.2 = eab)) (fun p => (2 - p.1).toNat) (0, 0, []) (.inl ⟨rfl, rfl, rfl⟩) ?_ ?_
 · exact (ent_sub [.to 0] [some 0] ⟨⟨by simp, rfl⟩, trivial⟩ ⟨osrc_arr (b := 0) rfl rfl rfl rfl (by rfl), trivial⟩ ⟨.refl _, .refl _, .cl hcI, .refl _, trivial⟩)
 rintro ⟨i, m, w⟩ gi
 dsimp only at gi ⊢
 rcases gi with ⟨gi, gm, gw⟩ | ⟨gi, gm, gw⟩ | ⟨gi, gm, gw⟩
 · rw [gi, gm, gw]
   refine goB hX 0 (by conv => lhs; cbv; try simp only [c0, hi0, ht0, u1, u2]; cbv; try simp only [c0, hi0, ht0, u1, u2]; cbv; try simp only [c0, hi0, ht0, u1, u2]; cbv; try simp only [c0, hi0, ht0, u1, u2]; cbv) ?_
   refine goB hX 1 (by conv => lhs; cbv; try simp only [c0, hi0, ht0, u1, u2]; cbv; try simp only [c0, hi0, ht0, u1, u2]; cbv; try simp only [c0, hi0, ht0, u1, u2]; cbv; try simp only [c0, hi0, ht0, u1, u2]; cbv) ?_
   refine loopP_next (1, la, ea) (.inr (.inl ⟨rfl, rfl, rfl⟩)) (by simp) (ent_sub [.gone, .to 0] [some 1] ⟨trivial, ⟨by simp, rfl⟩, trivial⟩ ⟨osrc_arr (b := 1) rfl rfl rfl rfl hac, trivial⟩ ⟨.refl _, .refl _, .cl hcI, .refl _, trivial⟩)
 · rw [gi, gm, gw]
   refine goB hX 0 (by conv => lhs; cbv; try simp only [c1, hi1, ht1, u3, u4]; cbv; try simp only [c1, hi1, ht1, u3, u4]; cbv; try simp only [c1, hi1, ht1, u3, u4]; cbv; try simp only [c1, hi1, ht1, u3, u4]; cbv) ?_
   refine goB hX 1 (by conv => lhs; cbv; try simp only [c1, hi1, ht1, u3, u4]; cbv; try simp only [c1, hi1, ht1, u3, u4]; cbv; try simp only [c1, hi1, ht1, u3, u4]; cbv; try simp only [c1, hi1, ht1, u3, u4]; cbv) ?_
   refine loopP_next (2, lab, eab) (.inr (.inr ⟨rfl, rfl, rfl⟩)) (by simp) (ent_sub [.gone, .to 0] [some 1] ⟨trivial, ⟨by simp, rfl⟩, trivial⟩ ⟨osrc_arr (b := 1) rfl rfl rfl rfl habc, trivial⟩ ⟨.refl _, .refl _, .cl hcI, .refl _, trivial⟩)
 rw [gi, gm, gw]
 refine goB hX 0 (by conv => lhs; cbv; try simp only [c2]; cbv; try simp only [c2]; cbv; try simp only [c2]; cbv; try simp only [c2]; cbv) ?_
 refine goA 60 ?_
 refine loopP_exit ?_
 refine goA 60 ?_
 refine o_ret (F2 := [(2, .sl 0 1 0 lab)]) (H2 := [.arr 1 eab]) ?_ rfl ⟨rfl, rfl⟩
 exact (ent_sub [.to 0] [some 0] ⟨⟨by simp, rfl⟩, trivial⟩ ⟨osrc_arr (b := 0) rfl rfl rfl rfl habc, trivial⟩ ⟨.refl _, trivial⟩)
theorem P_union (a b : List Int) (ha : a.length < 1048577) (hb : b.length < 1048577) : PCall EE 57 [.isl 1 (mapE int a), .isl 1 (mapE int b)] (.isl 1 (mapE int (uniI a b))) := by
 have h1 := O_Concat a b ha hb
 have hlen : (a ++ b).length < 4611686018427387904 := by rw [List.length_append]; omega
 have hss := C_Sort (a ++ b) hlen
 have hcc := C_Compact (sortI (a ++ b)) (by rw [sort_len]; exact hlen)
 rw [sort_len] at hcc
 have hR : uniI a b = Lib.compact (sortI (a ++ b)) := rfl
 have hac := closedL_int a
 have hbc := closedL_int b
 have haI := closedI_int a
 have hbI := closedI_int b
 have c1 := closedL_int (a ++ b)
 have c2 := closedL_int (sortI (a ++ b))
 have c3 := closedL_int (compI (sortI (a ++ b)))
 have hR2 : mapE int (uniI a b) = (mapE int (compI (sortI (a ++ b)))).take (uniI a b).length := by
  rw [hR, compI, mapE_eq, mapE_eq, List.map_append, List.take_left' (by simp)]
 have hle : (uniI a b).length ≤ (mapE int (compI (sortI (a ++ b)))).length := by
  rw [hR, mapE_len, compI_len]; exact compact_le _
 have hRc := closedL_int (uniI a b)
 rw [← hR] at hcc
 have hRl : (mapE int (uniI a b)).length = (uniI a b).length := mapE_len ..
 generalize mapE int a = ea at *
 generalize mapE int b = eb at *
 generalize mapE int (a ++ b) = w1 at *
 generalize mapE int (sortI (a ++ b)) = w2 at *
 generalize mapE int (compI (sortI (a ++ b))) = w3 at *
 generalize mapE int (uniI a b) = wr at *
 generalize (a ++ b).length = m1 at *
 generalize (uniI a b).length = rl at *
 refine wordsN ?_; unhygienic intros
 have hcI : AV.closedL [.isl 1 ea, .isl 1 eb] = true := by simp [AV.closedL, haI, hbI]
 refine fn_body (fn := Tryd.f57) (n := 14) (ac := Trydc57) (rvs := [.t 4]) rfl (by decide) Trydp57 rfl rfl rfl ?_
 refine goA 60 ?_
 refine on_entO (F' := [(8, .isl 1 [.isl 1 ea, .isl 1 eb])]) (H' := []) ?_ ?_
 · exact (ent_sub [.isl 1 ([AV.isl 1 ea, AV.isl 1 eb])] [] ⟨⟨_, rfl, (subL_closed _ hcI).symm⟩, trivial⟩ trivial ⟨.refl _, trivial⟩)
 refine on_ocall (args := [.isl 1 [.isl 1 ea, .isl 1 eb]]) (v' := .sl 0 1 0 m1) (H' := [.arr 1 w1]) rfl rfl rfl h1 (by simpa [AV.closedL, AV.closed] using hcI) rfl (by simp [AObj.sub, subL_closed _ c1]) ?_
 refine goA 60 ?_
 refine on_fcall [0] rfl rfl enters_slices_Sort___int_int_ hss (by decide) (by simp) (by show _ = [AObj.arr 1 (AV.subL _ w1)]; rw [subL_closed _ c1]) rfl ?_
 rintro v0 H' ⟨rfl, rfl⟩ -
 refine on_entO (F' := [(5, .sl 0 1 0 m1)]) (H' := [.arr 1 w2]) ?_ ?_
 · exact (ent_sub [.to 0] [some 0] ⟨⟨by simp, rfl⟩, trivial⟩ ⟨osrc_arr (b := 0) rfl rfl rfl (Go.Am.subL_closed _ c2) c2, trivial⟩ ⟨.refl _, trivial⟩)
 refine goA 60 ?_
 refine on_fcall [0] rfl rfl enters_slices_Compact___int_int_ hcc (by decide) (by simp) (by show _ = [AObj.arr 1 (AV.subL _ w2)]; rw [subL_closed _ c2]) rfl ?_
 rintro v0 H' ⟨rfl, rfl⟩ -
 refine on_entO (F' := [(13, .sl 0 1 0 rl)]) (H' := [.arr 1 w3]) ?_ ?_
 · exact (ent_sub [.to 0] [some 0] ⟨⟨by simp, rfl⟩, trivial⟩ ⟨osrc_arr (b := 0) rfl rfl rfl (Go.Am.subL_closed _ c3) c3, trivial⟩ ⟨.refl _, trivial⟩)
 refine goA 60 ?_
 refine fn_ret rfl rfl ?_
 exact ⟨[.isl 1 w3], ⟨⟨w3, rfl, (subL_closed _ c3).symm⟩, trivial⟩, .of (sub_part rfl (by simpa using hle) (by simpa using hR2.symm))⟩
theorem P_Equal (l : List Int) (hl : l.length < 1048577) : PCall EE 26 [.isl 1 (mapE int l), .isl 1 (mapE int l)] (bool true) := by
 have hcI := closedI_int l
 refine wordsN ?_; unhygienic intros
 generalize hes : mapE int l = es at *
 have hel : es.length = l.length := by rw [← hes, mapE_len]
 have k0 : iNe (lenA es) (lenA es) = false := by simp only [ee]; simp
 have k1 : ∀ x, iNe x x = false := fun x => by simp only [ee]; simp
 refine fn_body (fn := Tryd.f26) (n := 26) (ac := Trydc26) (rvs := [.t 4]) rfl (by decide) Trydp26 rfl rfl rfl ?_
 refine goB hX 0 (by conv => lhs; cbv; try simp only [k0]; cbv; try simp only [k0]; cbv; try simp only [k0]; cbv; try simp only [k0]; cbv) ?_
 refine goA 60 ?_
 refine on_loopP (ι := List Int × List Int × Int) (fun p => ([(13, int p.2.2), (12, int (lenA es)), (0, .isl 1 es), (1, .isl 1 es)], [])) (fun p => l = p.1 ++ p.2.1 ∧ p.2.2 = p.1.length) (fun p => p.2.1.length) ([], l, 0) ⟨rfl, rfl⟩ ?_ ?_
 · exact (ent_sub [] [] trivial trivial ⟨.refl _, .refl _, .cl hcI, .cl hcI, trivial⟩)
 rintro ⟨d, r, i⟩ ⟨g1, gi⟩
 dsimp only at g1 gi ⊢
 cases r with
 | nil =>
  have L1 := len_split g1
  try simp only [List.length] at L1
  have hc : iLt i (lenA es) = false := lt_f e_iLt e_lenA (by omega)
  refine goB hX 0 (by conv => lhs; cbv; try simp only [hc]; cbv; try simp only [hc]; cbv; try simp only [hc]; cbv; try simp only [hc]; cbv) ?_
  refine goA 60 ?_
  refine loopP_exit ?_
  refine goA 60 ?_
  refine fn_ret rfl rfl (.val ?_)
  rfl
 | cons x r =>
  have L1 := len_split g1
  try simp only [List.length] at L1
  have hc : iLt i (lenA es) = true := lt_t e_iLt e_lenA (by omega)
  have hat := el_at e_atA hes g1 gi
  have hi2 : iAdd .i64 i 1 = ((d ++ [x]).length : Int) := by rw [List.length_append]; exact inc_w e_iAdd gi (by omega)
  have k2 := k1 x
  refine goB hX 0 (by conv => lhs; cbv; try simp only [hc, hat, k2]; cbv; try simp only [hc, hat, k2]; cbv; try simp only [hc, hat, k2]; cbv; try simp only [hc, hat, k2]; cbv) ?_
  refine goB hX 1 (by conv => lhs; cbv; try simp only [hc, hat, k2]; cbv; try simp only [hc, hat, k2]; cbv; try simp only [hc, hat, k2]; cbv; try simp only [hc, hat, k2]; cbv) ?_
  refine goA 60 ?_
  refine loopP_next (d ++ [x], r, iAdd .i64 i 1) ⟨by simp [g1], hi2⟩ (by simp) (ent_sub [] [] trivial trivial ⟨.refl _, .refl _, .cl hcI, .cl hcI, trivial⟩)
theorem sc_row {o : Int} (h0 : 0 ≤ o) (h1 : o < 8) : Wd.rowA (Classical.choice scBox_ne).g o 2 = [bool (keepsF o), bool (testsF o)] := by
 rw [(Classical.choice scBox_ne).h]
 obtain ⟨n, rfl⟩ : ∃ n : Nat, o = n := ⟨o.toNat, by omega⟩
 have : n < 8 := by omega
 match n, this with
 | 0, _ | 1, _ | 2, _ | 3, _ | 4, _ | 5, _ | 6, _ | 7, _ => rfl
theorem onesL_snoc (acc : List Int) (d : List Pat) (q : Pat) : Pat.onesL acc (d ++ [q]) = uniI (Pat.onesL acc d) q.ones := by
 induction d generalizing acc with
 | nil => rw [List.nil_append, Pat.onesL, Pat.onesL, Pat.onesL]
 | cons x r ih => rw [List.cons_append, Pat.onesL, ih, Pat.onesL]
theorem onesL_ok {d : List Pat} (h : ∀ e ∈ d, e.wf) : (Pat.onesL [] d).Pairwise (· < ·) ∧ VR (Pat.onesL [] d) ∧ (Pat.onesL [] d).length ≤ 16 := by
 have : ∀ (n : Nat) (d : List Pat), d.length = n → (∀ e ∈ d, e.wf) → (Pat.onesL [] d).Pairwise (· < ·) ∧ VR (Pat.onesL [] d) := by
  intro n
  induction n with
  | zero => intro d hd _; obtain rfl := List.length_eq_zero_iff.1 hd; rw [Pat.onesL]; exact ⟨List.Pairwise.nil, fun _ h => by cases h⟩
  | succ n ih =>
   intro d hd hw
   have hne : d ≠ [] := by rintro rfl; cases hd
   obtain ⟨e, x, rfl⟩ : ∃ e x, d = e ++ [x] := ⟨d.dropLast, d.getLast hne, (List.dropLast_concat_getLast hne).symm⟩
   rw [onesL_snoc]
   exact ⟨uni_sorted _ _, (ih e (by simpa using hd) (fun y hy => hw y (by simp [hy]))).2.uni (ones_spec x (hw x (by simp))).2⟩
 obtain ⟨h1, h2⟩ := this _ d rfl h
 exact ⟨h1, h2, h2.len h1⟩
theorem P_ones : ∀ p : Pat, p.Sm → p.wf → PCall EE 38 [p.enc] (.isl 1 (mapE int p.ones)) := by
 refine Pat.ind ?_
 intro o a t v s n c ih hs hw
 have hlen := hs.len
 have hih : ∀ q ∈ a, PCall EE 38 [q.enc] (.isl 1 (mapE int q.ones)) := fun q hq => ih q hq (hs.arg hq) (hw.arg hq)
 have hwa : ∀ q ∈ a, q.wf := fun q hq => hw.arg hq
 obtain ⟨ho0, ho1, _, _, _⟩ := hw.self
 simp only [Pat.op] at ho0 ho1
 have hrow := sc_row ho0 ho1
 have hcl := Pat.closedI a
 have hpc := Pat.closed (.mk o a t v s n c)
 have hcc := Ex.closed c
 obtain ⟨R, hR⟩ : ∃ R, R = Pat.ones (.mk o a t v s n c) := ⟨_, rfl⟩
 rw [← hR]
 rw [Pat.ones] at hR
 obtain ⟨cO, cA, cV, cF, cK, cXk, cXn, cXt, hcx⟩ := Ex.form c
 have hpx := Pat.enc_c o a t v s n hcx
 simp only [List.cons_append, List.nil_append] at hpx
 rw [hpx] at hpc ⊢
 rw [hcx] at hcc
 have hcaI : (AV.isl 8 cA).closed = true := by have := hcc; simp [AV.closed, AV.closedL] at this ⊢; exact this
 have hnil : mapE int [] = [] := by rw [mapE_eq]; rfl
 have hone : mapE int [v] = [int v] := by rw [mapE_eq]; rfl
 clear ih hs hw hpx hcx
 refine wordsN ?_; unhygienic intros
 generalize hes : mapE Pat.enc a = es at *
 have hel : es.length = a.length := by rw [← hes, mapE_len]
 have hrw : rowA (Classical.choice scBox_ne).g o 2 = [bool (keepsF o), bool (testsF o)] := by rw [e_rowA]; exact hrow
 have n0 : bNot false = true := by simp only [ee]; rfl
 have n1 : bNot true = false := by simp only [ee]; rfl
 generalize keepsF o = kp at *
 generalize testsF o = ts at *
 refine fn_body (fn := Tryd.f38) (n := 31) (ac := Trydc38) (rvs := [.t 2]) rfl (by decide) Trydp38 rfl rfl rfl ?_
 cases kp with
 | false =>
  rw [if_neg (by decide)] at hR
  rw [hR, hnil]
  refine goB hX 0 (by conv => lhs; cbv; try simp only [hrw, n0]; cbv; try simp only [hrw, n0]; cbv; try simp only [hrw, n0]; cbv; try simp only [hrw, n0]; cbv) ?_
  refine goA 60 ?_
  refine fn_ret rfl rfl ?_
  exact ⟨[.gone], ⟨trivial, trivial⟩, .nilI _⟩
 | true =>
 rw [if_pos rfl] at hR
 by_cases h0 : o = 0
 · have k0 : iEq o 0 = true := by simp only [ee]; simpa using h0
   rw [if_pos h0] at hR
   rw [hR, hone]
   refine goB hX 0 (by conv => lhs; cbv; try simp only [hrw, n1, k0]; cbv; try simp only [hrw, n1, k0]; cbv; try simp only [hrw, n1, k0]; cbv; try simp only [hrw, n1, k0]; cbv) ?_
   refine goB hX 1 (by conv => lhs; cbv; try simp only [hrw, n1, k0]; cbv; try simp only [hrw, n1, k0]; cbv; try simp only [hrw, n1, k0]; cbv; try simp only [hrw, n1, k0]; cbv) ?_
   refine goA 60 ?_
   refine fn_ret rfl rfl ?_
   exact ⟨[.gone, .isl 1 ([AV.val (Value.int IntKind.i64 v)])], ⟨trivial, ⟨_, rfl, (subL_closed _ (by rfl)).symm⟩, trivial⟩, .refl _⟩
 have k0 : iEq o 0 = false := by simp only [ee]; simpa using h0
 rw [if_neg h0] at hR
 have q0 := hR
 refine goB hX 0 (by conv => lhs; cbv; try simp only [hrw, n1, k0]; cbv; try simp only [hrw, n1, k0]; cbv; try simp only [hrw, n1, k0]; cbv; try simp only [hrw, n1, k0]; cbv) ?_
 refine goB hX 1 (by conv => lhs; cbv; try simp only [hrw, n1, k0]; cbv; try simp only [hrw, n1, k0]; cbv; try simp only [hrw, n1, k0]; cbv; try simp only [hrw, n1, k0]; cbv) ?_
 refine goA 60 ?_
 refine on_loopP (ι := List Pat × List Pat × Int × List AV) (fun p => ([(21, int p.2.2.1), (20, int (lenA es)), (19, .isl 14 es), (3, .isl 1 p.2.2.2)], [])) (fun p => a = p.1 ++ p.2.1 ∧ p.2.2.1 = p.1.length ∧ p.2.2.2 = mapE int (Pat.onesL [] p.1)) (fun p => p.2.1.length) ([], a, 0, []) ⟨rfl, rfl, by rw [Pat.onesL]; exact hnil.symm⟩ ?_ ?_
 · exact (ent_sub [.gone] [] ⟨trivial, trivial⟩ trivial ⟨.refl _, .refl _, .cl hcl, .nilI _, trivial⟩)
 rintro ⟨d, r, i, L⟩ ⟨g1, gi, gL⟩
 dsimp only at g1 gi gL ⊢
 have hLI : (AV.isl 1 L).closed = true := by rw [gL]; exact closedI_int _
 cases r with
 | nil =>
  have L1 := len_split g1
  try simp only [List.length] at L1
  have hc : iLt i (lenA es) = false := lt_f e_iLt e_lenA (by omega)
  rw [List.append_nil] at g1
  rw [hR, g1, ← gL]
  refine goB hX 0 (by conv => lhs; cbv; try simp only [hc]; cbv; try simp only [hc]; cbv; try simp only [hc]; cbv; try simp only [hc]; cbv) ?_
  refine goA 60 ?_
  refine loopP_exit ?_
  refine goA 60 ?_
  refine fn_ret rfl rfl ?_
  exact ⟨[], trivial, .cl hLI⟩
 | cons q r =>
  have L1 := len_split g1
  try simp only [List.length] at L1
  have hc : iLt i (lenA es) = true := lt_t e_iLt e_lenA (by omega)
  have hat := el_at e_atA hes g1 gi
  have hqm : q ∈ a := by rw [g1]; simp
  have hq := hih q hqm
  have hqw := hwa q hqm
  have hdo := onesL_ok (d := d) (fun e he => hwa e (by rw [g1]; simp [he]))
  have hu := P_union (Pat.onesL [] d) q.ones (by have := hdo.2.2; omega) (by have := ones_len hqw; omega)
  have hsn := onesL_snoc [] d q
  rw [← gL] at hu
  have hqc := Pat.closed q
  have hqI := closedI_int q.ones
  have hi2 : iAdd .i64 i 1 = ((d ++ [q]).length : Int) := by rw [List.length_append]; exact inc_w e_iAdd gi (by omega)
  have hL2 : mapE int (uniI (Pat.onesL [] d) q.ones) = mapE int (Pat.onesL [] (d ++ [q])) := by rw [hsn]
  have hL2c := closedI_int (uniI (Pat.onesL [] d) q.ones)
  generalize mapE int q.ones = qo at *
  generalize mapE int (uniI (Pat.onesL [] d) q.ones) = L2 at *
  obtain ⟨qO, qA, qT, qV, qS, qN, qCo, qCa, qCv, qCf, qCk, qXk, qXn, qXt, hy⟩ := Pat.form q
  rw [hy] at hat hqc hq
  refine goB hX 0 (by conv => lhs; cbv; try simp only [hc, hat]; cbv; try simp only [hc, hat]; cbv; try simp only [hc, hat]; cbv; try simp only [hc, hat]; cbv) ?_
  refine goB hX 1 (by conv => lhs; cbv; try simp only [hc, hat]; cbv; try simp only [hc, hat]; cbv; try simp only [hc, hat]; cbv; try simp only [hc, hat]; cbv) ?_
  refine oPA hq ?_
  refine oPA hu ?_
  refine goA 60 ?_
  refine loopP_next (d ++ [q], r, iAdd .i64 i 1, L2) ⟨by simp [g1], hi2, hL2⟩ (by simp) (ent_sub [.gone] [] ⟨trivial, trivial⟩ trivial ⟨.refl _, .refl _, .cl hcl, .cl hL2c, trivial⟩)
theorem tests_or {o : Int} (h : testsF o = true) : o = 0 ∨ o = 5 ∨ o = 7 := by unfold testsF at h; simpa using h
theorem arg_sm {p e : Pat} (hs : p.Sm) (h : p.args = [e]) : e.Sm := by
 obtain ⟨o, a, t, v, s, n, c⟩ := p
 simp only [Pat.args] at h
 exact hs.arg (by rw [h]; simp)
theorem arg_wf {p e : Pat} (hs : p.wf) (h : p.args = [e]) : e.wf := by
 obtain ⟨o, a, t, v, s, n, c⟩ := p
 simp only [Pat.args] at h
 exact hs.arg (by rw [h]; simp)
theorem one_lt {p : Pat} : [p.var].length < 1048577 := by simp
theorem P_own (p : Pat) (hs : p.Sm) (hw : p.wf) (ht : testsF p.op = true) (l : Plc) (hl : l.ok) : PCall EE 37 [p.enc, l.enc] (p.own l).enc := by
 have ho := tests_or ht
 have q1 := P_union l.us [p.var] (by have := hl.2.2.1; omega) one_lt
 have q2 := P_union l.si [p.var] (by have := hl.2.2.2; omega) one_lt
 have hone : mapE int [p.var] = [int p.var] := by rw [mapE_eq]; rfl
 rw [hone] at q1 q2
 have hLU := closedI_int l.us
 have hLS := closedI_int l.si
 have hcl := Pat.closed p
 have hwn := hw.self.2.2.2.2
 have hR : (p.own l).enc = _ := rfl
 rw [hR]
 unfold Pat.own
 by_cases h0 : p.op = 0
 · rw [if_pos h0]
   simp only [Plc.enc]
   have r1 := closedI_int (uniI l.us [p.var])
   have r2 := closedI_int (uniI l.si [p.var])
   generalize mapE int (uniI l.us [p.var]) = A1 at *
   generalize mapE int (uniI l.si [p.var]) = A2 at *
   generalize mapE int l.us = LU at *
   generalize mapE int l.si = LS at *
   obtain ⟨pO, pA, pT, pV, pS, pN, pCo, pCa, pCv, pCf, pCk, pXk, pXn, pXt, hx, hxc, hpO, hpA, hpT, hpV, hpS, hpN⟩ := Pat.form2 p
   rw [hx] at hcl ⊢
   rw [← hpO] at h0
   rw [← hpV] at q1 q2
   have hpAI : (AV.isl 14 pA).closed = true := by have := hcl; simp [AV.closed, AV.closedL] at this ⊢; exact this.1
   have hpCI : (AV.isl 8 pCa).closed = true := by have := hcl; simp [AV.closed, AV.closedL] at this ⊢; exact this.2
   have hvc : (AV.isl 1 [int pV]).closed = true := rfl
   clear hx hxc hpA hR hone hwn ho
   refine wordsN ?_; unhygienic intros
   have k0 : iEq pO 0 = true := by simp only [ee]; simpa using h0
   refine fn_body (fn := Tryd.f37) (n := 58) (ac := Trydc37) (rvs := [.cell 4 3 true]) rfl (by decide) Trydp37 rfl rfl rfl ?_
   refine goB hX 0 (by conv => lhs; cbv; try simp only [k0]; cbv; try simp only [k0]; cbv; try simp only [k0]; cbv; try simp only [k0]; cbv) ?_
   refine goA 60 ?_
   refine on_ent (F' := [(5, .isl 1 [int pV]), (2, .ptr 0 0), (3, .ptr 1 0), (4, .ptr 2 0)]) (H' := [.cells [int pO, .isl 14 pA, int pT, int pV, int pS, int pN, int pCo, .isl 8 pCa, int pCv, int pCf, int pCk, int pXk, int pXn, str pXt], .cells [.isl 1 LU, .isl 1 LS, int l.fb], .cells [.val (.slice none 0 0), .val (.slice none 0 0), int 0]]) ?_ ?_
   · exact (ent_sub [.to 0, .to 1, .to 2, .isl 1 ([AV.val (Value.int IntKind.i64 pV)])] [some 0, some 1, some 2] ⟨⟨by simp, rfl⟩, ⟨by simp, rfl⟩, ⟨by simp, rfl⟩, ⟨_, rfl, (subL_closed _ (by rfl)).symm⟩, trivial⟩ ⟨osrc_cells (b := 0) rfl rfl rfl ⟨.refl _, .cl hpAI, .refl _, .refl _, .refl _, .refl _, .refl _, .cl hpCI, .refl _, .refl _, .refl _, .refl _, .refl _, .refl _, trivial⟩, osrc_cells (b := 1) rfl rfl rfl ⟨.cl hLU, .cl hLS, .refl _, trivial⟩, osrc_cells (b := 2) rfl rfl rfl ⟨.refl _, .refl _, .refl _, trivial⟩, trivial⟩ ⟨.refl _, .refl _, .refl _, .refl _, trivial⟩)
   refine goA 60 ?_
   refine tr_drawB rfl (by conv => lhs; cbv) rfl ?_
   refine tgA ?_
   refine oPT q1 ?_
   refine tgA ?_
   refine oPT q2 ?_
   refine tgA ?_
   refine tr_nil ⟨rfl, by simp [LooksL, lookAll], ?_⟩
   refine goA 60 ?_
   refine fn_ret rfl rfl ?_
   exact ⟨[.gone, .gone, .gone], ⟨trivial, trivial, trivial, trivial⟩, .agg' ⟨.cl r1, .cl r2, .refl _, trivial⟩⟩
 rw [if_neg h0]
 obtain ⟨e, he⟩ := hwn (by omega)
 have hes := arg_sm hs he
 have hew := arg_wf hw he
 have hea : p.arg0 = e := by unfold Pat.arg0; rw [he]; rfl
 rw [hea]
 have q3 := P_Bound e hes
 have q4 := P_union l.us e.bound (by have := hl.2.2.1; omega) (by have := bound_len hew; omega)
 have hub : (uniI l.us e.bound).length < 1048577 := by have := uni_len l.us e.bound; have := hl.2.2.1; have := bound_len hew; omega
 have q5 := P_union (uniI l.us e.bound) [p.var] hub one_lt
 have q6 := P_ones e hes hew
 have q7 := P_union l.si e.ones (by have := hl.2.2.2; omega) (by have := ones_len hew; omega)
 rw [hone] at q5
 have hae : mapE Pat.enc p.args = [e.enc] := by rw [he, mapE_eq]; rfl
 have hec := Pat.closed e
 by_cases h5 : p.op = 5
 · rw [if_pos h5]
   simp only [Plc.enc]
   have r1 := closedI_int (uniI (uniI l.us e.bound) [p.var])
   have r2 := closedI_int (uniI l.si [p.var])
   have r3 := closedI_int e.bound
   have r4 := closedI_int (uniI l.us e.bound)
   clear q6 q7
   generalize mapE int (uniI (uniI l.us e.bound) [p.var]) = A1 at *
   generalize mapE int (uniI l.si [p.var]) = A2 at *
   generalize mapE int (uniI l.us e.bound) = A3 at *
   generalize mapE int e.bound = A4 at *
   generalize mapE int l.us = LU at *
   generalize mapE int l.si = LS at *
   obtain ⟨pO, pA, pT, pV, pS, pN, pCo, pCa, pCv, pCf, pCk, pXk, pXn, pXt, hx, hxc, hpO, hpA, hpT, hpV, hpS, hpN⟩ := Pat.form2 p
   rw [hx] at hcl ⊢
   rw [← hpO] at h0 h5
   rw [← hpV] at q1 q2 q5
   rw [← hpA] at hae
   have hpAI : (AV.isl 14 pA).closed = true := by have := hcl; simp [AV.closed, AV.closedL] at this ⊢; exact this.1
   have hpCI : (AV.isl 8 pCa).closed = true := by have := hcl; simp [AV.closed, AV.closedL] at this ⊢; exact this.2
   obtain ⟨eO, eA, eT, eV, eS, eN, eCo, eCa, eCv, eCf, eCk, eXk, eXn, eXt, hy⟩ := Pat.form e
   rw [hy] at q3 hae hec
   clear hx hxc hpA hR hone hwn ho
   subst hae
   have hvc : (AV.isl 1 [int pV]).closed = true := rfl
   refine wordsN ?_; unhygienic intros
   have k0 : iEq pO 0 = false := by simp only [ee]; simpa using h0
   have k5 : iEq pO 5 = true := by simp only [ee]; simpa using h5
   have a0 : atA [.agg [int eO, .isl 14 eA, int eT, int eV, int eS, int eN, int eCo, .isl 8 eCa, int eCv, int eCf, int eCk, int eXk, int eXn, str eXt]] 0 = .agg [int eO, .isl 14 eA, int eT, int eV, int eS, int eN, int eCo, .isl 8 eCa, int eCv, int eCf, int eCk, int eXk, int eXn, str eXt] := by simp only [ee]; rfl
   refine fn_body (fn := Tryd.f37) (n := 58) (ac := Trydc37) (rvs := [.cell 4 3 true]) rfl (by decide) Trydp37 rfl rfl rfl ?_
   refine goB hX 0 (by conv => lhs; cbv; try simp only [k0]; cbv; try simp only [k0]; cbv; try simp only [k0]; cbv; try simp only [k0]; cbv) ?_
   refine goB hX 1 (by conv => lhs; cbv; try simp only [k5]; cbv; try simp only [k5]; cbv; try simp only [k5]; cbv; try simp only [k5]; cbv) ?_
   refine on_ent (F' := [(22, .val (.bool true)), (5, .isl 1 [int pV]), (2, .ptr 0 0), (3, .ptr 1 0), (4, .ptr 2 0)]) (H' := [.cells [int pO, .isl 14 [.agg [int eO, .isl 14 eA, int eT, int eV, int eS, int eN, int eCo, .isl 8 eCa, int eCv, int eCf, int eCk, int eXk, int eXn, str eXt]], int pT, int pV, int pS, int pN, int pCo, .isl 8 pCa, int pCv, int pCf, int pCk, int pXk, int pXn, str pXt], .cells [.isl 1 LU, .isl 1 LS, int l.fb], .cells [.val (.slice none 0 0), .val (.slice none 0 0), int 0]]) ?_ ?_
   · exact (ent_sub [.to 0, .to 1, .to 2, .isl 1 ([AV.val (Value.int IntKind.i64 pV)])] [some 0, some 1, some 2] ⟨⟨by simp, rfl⟩, ⟨by simp, rfl⟩, ⟨by simp, rfl⟩, ⟨_, rfl, (subL_closed _ (by rfl)).symm⟩, trivial⟩ ⟨osrc_cells (b := 0) rfl rfl rfl ⟨.refl _, .cl hpAI, .refl _, .refl _, .refl _, .refl _, .refl _, .cl hpCI, .refl _, .refl _, .refl _, .refl _, .refl _, .refl _, trivial⟩, osrc_cells (b := 1) rfl rfl rfl ⟨.cl hLU, .cl hLS, .refl _, trivial⟩, osrc_cells (b := 2) rfl rfl rfl ⟨.refl _, .refl _, .refl _, trivial⟩, trivial⟩ ⟨.refl _, .refl _, .refl _, .refl _, .refl _, trivial⟩)
   refine goB hX 0 (by conv => lhs; cbv; try simp only [a0, k5]; cbv; try simp only [a0, k5]; cbv; try simp only [a0, k5]; cbv; try simp only [a0, k5]; cbv) ?_
   refine goB hX 1 (by conv => lhs; cbv; try simp only [a0, k5]; cbv; try simp only [a0, k5]; cbv; try simp only [a0, k5]; cbv; try simp only [a0, k5]; cbv) ?_
   refine tr_drawB rfl (by conv => lhs; cbv) rfl ?_
   refine tgB hX (by conv => lhs; cbv; try simp only [a0, k5]; cbv; try simp only [a0, k5]; cbv; try simp only [a0, k5]; cbv; try simp only [a0, k5]; cbv) ?_
   refine oPT q3 ?_
   refine oPT q4 ?_
   refine tgA ?_
   refine oPT q5 ?_
   refine tgA ?_
   refine oPT q2 ?_
   refine tgA ?_
   refine tr_nil ⟨rfl, by simp [LooksL, lookAll], ?_⟩
   refine goA 60 ?_
   refine fn_ret rfl rfl ?_
   exact ⟨[.gone, .gone, .gone], ⟨trivial, trivial, trivial, trivial⟩, .agg' ⟨.cl r1, .cl r2, .of (congrArg int (by assumption)), trivial⟩⟩
 rw [if_neg h5]
 simp only [Plc.enc]
 have r1 := closedI_int (uniI l.us e.bound)
 have r2 := closedI_int (uniI l.si e.ones)
 have r3 := closedI_int e.bound
 have r4 := closedI_int e.ones
 clear q5 q1 q2
 generalize mapE int (uniI l.us e.bound) = A1 at *
 generalize mapE int (uniI l.si e.ones) = A2 at *
 generalize mapE int e.bound = A4 at *
 generalize mapE int e.ones = A5 at *
 generalize mapE int l.us = LU at *
 generalize mapE int l.si = LS at *
 obtain ⟨pO, pA, pT, pV, pS, pN, pCo, pCa, pCv, pCf, pCk, pXk, pXn, pXt, hx, hxc, hpO, hpA, hpT, hpV, hpS, hpN⟩ := Pat.form2 p
 rw [hx] at hcl ⊢
 rw [← hpO] at h0 h5
 rw [← hpA] at hae
 have hpAI : (AV.isl 14 pA).closed = true := by have := hcl; simp [AV.closed, AV.closedL] at this ⊢; exact this.1
 have hpCI : (AV.isl 8 pCa).closed = true := by have := hcl; simp [AV.closed, AV.closedL] at this ⊢; exact this.2
 obtain ⟨eO, eA, eT, eV, eS, eN, eCo, eCa, eCv, eCf, eCk, eXk, eXn, eXt, hy⟩ := Pat.form e
 rw [hy] at q3 q6 hae hec
 clear hx hxc hpA hR hone hwn ho
 subst hae
 refine wordsN ?_; unhygienic intros
 have k0 : iEq pO 0 = false := by simp only [ee]; simpa using h0
 have k5 : iEq pO 5 = false := by simp only [ee]; simpa using h5
 have a0 : atA [.agg [int eO, .isl 14 eA, int eT, int eV, int eS, int eN, int eCo, .isl 8 eCa, int eCv, int eCf, int eCk, int eXk, int eXn, str eXt]] 0 = .agg [int eO, .isl 14 eA, int eT, int eV, int eS, int eN, int eCo, .isl 8 eCa, int eCv, int eCf, int eCk, int eXk, int eXn, str eXt] := by simp only [ee]; rfl
 refine fn_body (fn := Tryd.f37) (n := 58) (ac := Trydc37) (rvs := [.cell 4 3 true]) rfl (by decide) Trydp37 rfl rfl rfl ?_
 refine goB hX 0 (by conv => lhs; cbv; try simp only [k0]; cbv; try simp only [k0]; cbv; try simp only [k0]; cbv; try simp only [k0]; cbv) ?_
 refine goB hX 1 (by conv => lhs; cbv; try simp only [k5]; cbv; try simp only [k5]; cbv; try simp only [k5]; cbv; try simp only [k5]; cbv) ?_
 refine goB hX 1 (by conv => lhs; cbv; try simp only [a0, k5]; cbv; try simp only [a0, k5]; cbv; try simp only [a0, k5]; cbv; try simp only [a0, k5]; cbv) ?_
 refine tr_drawB rfl (by conv => lhs; cbv) rfl ?_
 refine tgB hX (by conv => lhs; cbv; try simp only [a0, k5]; cbv; try simp only [a0, k5]; cbv; try simp only [a0, k5]; cbv; try simp only [a0, k5]; cbv) ?_
 refine oPT q3 ?_
 refine oPT q4 ?_
 refine tgB hX (by conv => lhs; cbv; try simp only [a0, k5]; cbv; try simp only [a0, k5]; cbv; try simp only [a0, k5]; cbv; try simp only [a0, k5]; cbv) ?_
 refine oPT q6 ?_
 refine oPT q7 ?_
 refine tgA ?_
 refine tr_nil ⟨rfl, by simp [LooksL, lookAll], ?_⟩
 refine goA 60 ?_
 refine fn_ret rfl rfl ?_
 exact ⟨[.gone, .gone, .gone, .gone], ⟨trivial, trivial, trivial, trivial, trivial⟩, .agg' ⟨.cl r1, .cl r2, .refl _, trivial⟩⟩
end Go.Am
end
