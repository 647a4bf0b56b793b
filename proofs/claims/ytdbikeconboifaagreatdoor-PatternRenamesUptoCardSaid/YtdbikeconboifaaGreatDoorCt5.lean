/- Contracts of the program's functions, for every argument that meets the conditions that each theorem names. -/
import Derived.Test.YtdbikeconboifaaGreatDoorAm6
import Derived.Test.YtdbikeconboifaaGreatDoorCt2
import Derived.Test.YtdbikeconboifaaGreatDoorCt4
import Derived.Test.YtdbikeconboifaaGreatDoorCt3
section
set_option maxHeartbeats 16000000
set_option linter.unusedVariables false
set_option linter.unusedSimpArgs false
set_option maxRecDepth 20000
namespace Go.Am
open Go.Proofs
theorem P_ref09_Same : ∀ x y : Pat, x.Sm → PCall EE 11 [x.enc, y.enc] (bool (eqB x y)) := by
 refine Pat.ind ?_
 intro o a t v s n c ih y hs
 obtain ⟨o2, a2, t2, v2, s2, n2, c2⟩ := y
 have hlen := hs.len
 have hih : ∀ q ∈ a, ∀ q2, PCall EE 11 [q.enc, q2.enc] (bool (eqB q q2)) := fun q hq q2 => ih q hq q2 (hs.arg hq)
 have hcs := P_ref08_Same c c2 hs.cond
 have hcl := Pat.closedI a
 have hcl2 := Pat.closedI a2
 have hcc := Ex.closed c
 have hcc2 := Ex.closed c2
 obtain ⟨R, hR⟩ : ∃ R, R = eqB (Pat.mk o a t v s n c) (Pat.mk o2 a2 t2 v2 s2 n2 c2) := ⟨_, rfl⟩
 have hRe : o = o2 → t = t2 → v = v2 → s = s2 → n = n2 → c = c2 → R = eqB a a2 := by
  rintro rfl rfl rfl rfl rfl rfl
  rw [hR]
  by_cases h : a = a2
  · rw [h, eqB_t rfl, eqB_t rfl]
  · rw [eqB_f h, eqB_f (by simp [h])]
 have hRf : ¬(o = o2 ∧ t = t2 ∧ v = v2 ∧ s = s2 ∧ n = n2 ∧ c = c2 ∧ a.length = a2.length) → R = false := by
  intro h; rw [hR]; refine eqB_f fun h2 => h ?_
  simp only [Pat.mk.injEq] at h2
  obtain ⟨rfl, rfl, rfl, rfl, rfl, rfl, rfl⟩ := h2
  simp
 obtain ⟨B, hB⟩ : ∃ B, B = eqB c c2 := ⟨_, rfl⟩
 have hB1 : B = true → c = c2 := fun h => eqB_iff.1 (hB ▸ h)
 have hB2 : B = false → c ≠ c2 := fun h hc => by rw [hB, eqB_t hc] at h; cases h
 rw [← hB] at hcs
 rw [← hR]
 obtain ⟨cCo, cC, cv, cf, ck, cxk, cxn, cxt⟩ := c
 obtain ⟨dCo, dC, dv, df, dk, dxk, dxn, dxt⟩ := c2
 rw [Pat.enc_mk, Pat.enc_mk]
 rw [Ex.enc_mk] at hcc hcc2 hcs
 rw [Ex.enc_mk] at hcs
 dsimp only at hcc hcc2 hcs ⊢
 have hcC := Ex.closedI cC
 have hcD := Ex.closedI dC
 clear ih hs hR hB
 refine wordsN ?_; unhygienic intros
 generalize mapE Ex.enc cC = cC' at *
 generalize mapE Ex.enc dC = dC' at *
 generalize hes : mapE Pat.enc a = es at *
 generalize hes2 : mapE Pat.enc a2 = es2 at *
 have hel : es.length = a.length := by rw [← hes, mapE_len]
 have hel2 : es2.length = a2.length := by rw [← hes2, mapE_len]
 have hor : ∀ b, bOr false b = b := by simp [ee]
 have hor2 : ∀ b, bOr b false = b := by simp [ee]
 have hort : ∀ b, bOr true b = true := by simp [ee]
 have hne : ∀ z, iNe z z = false := by simp [ee]
 have hnt : bNot true = false := by simp [ee]
 have hnf : bNot false = true := by simp [ee]
 refine fn_body (fn := Tryz.f11) (n := 75) (ac := Tryzc11) (rvs := [.t 4]) rfl (by decide) Tryzp11 rfl rfl rfl ?_
 by_cases hd : o = o2 ∧ t = t2 ∧ v = v2 ∧ s = s2 ∧ n = n2
 rotate_left
 · have hR : R = false := hRf (fun h => hd ⟨h.1, h.2.1, h.2.2.1, h.2.2.2.1, h.2.2.2.2.1⟩)
  have hbig : bOr (bOr (bOr (bOr (iNe o o2) (iNe t t2)) (iNe v v2)) (iNe s s2)) (iNe n n2) = true := by
   simp only [ee]
   simp only [Bool.or_eq_true, bne_iff_ne, ne_eq]
   by_cases h1 : o = o2 <;> by_cases h2 : t = t2 <;> by_cases h3 : v = v2 <;> by_cases h4 : s = s2 <;> by_cases h5 : n = n2 <;> simp_all
  refine goB hX 0 (by conv => lhs; cbv; try simp only [hbig, hor, hort]; cbv; try simp only [hbig, hor, hort]; cbv; try simp only [hbig, hor, hort]; cbv; try simp only [hbig, hor, hort]; cbv) ?_
  refine goA 60 ?_
  refine on_gskip rfl rfl ?_
  refine goB hX 0 (by conv => lhs; cbv; try simp only [hbig, hor, hort]; cbv; try simp only [hbig, hor, hort]; cbv; try simp only [hbig, hor, hort]; cbv; try simp only [hbig, hor, hort]; cbv) ?_
  refine goA 60 ?_
  refine fn_ret rfl rfl (.val ?_)
  exact congrArg Value.bool hR.symm
 obtain ⟨rfl, rfl, rfl, rfl, rfl⟩ := hd
 cases B with
 | false =>
  have hR : R = false := hRf (fun h => hB2 rfl h.2.2.2.2.2.1)
  refine goB hX 0 (by conv => lhs; cbv; try simp only [hne, hor, hort, hnf]; cbv; try simp only [hne, hor, hort, hnf]; cbv; try simp only [hne, hor, hort, hnf]; cbv; try simp only [hne, hor, hort, hnf]; cbv) ?_
  refine goA 60 ?_
  refine pcG hcs ?_
  refine goB hX 0 (by conv => lhs; cbv; try simp only [hne, hor, hort, hnf]; cbv; try simp only [hne, hor, hort, hnf]; cbv; try simp only [hne, hor, hort, hnf]; cbv; try simp only [hne, hor, hort, hnf]; cbv) ?_
  refine goA 60 ?_
  refine fn_ret rfl rfl (.val ?_)
  exact congrArg Value.bool hR.symm
 | true =>
 have hRe := hRe rfl rfl rfl rfl rfl (hB1 rfl)
 by_cases hl8 : a.length = a2.length
 rotate_left
 · have hR : R = false := hRf (fun h => hl8 h.2.2.2.2.2.2)
  have hln : iNe (lenA es) (lenA es2) = true := by simp only [ee]; simp; omega
  refine goB hX 0 (by conv => lhs; cbv; try simp only [hne, hor, hort, hnt, hln]; cbv; try simp only [hne, hor, hort, hnt, hln]; cbv; try simp only [hne, hor, hort, hnt, hln]; cbv; try simp only [hne, hor, hort, hnt, hln]; cbv) ?_
  refine goA 60 ?_
  refine pcG hcs ?_
  refine goB hX 0 (by conv => lhs; cbv; try simp only [hne, hor, hort, hnt, hln]; cbv; try simp only [hne, hor, hort, hnt, hln]; cbv; try simp only [hne, hor, hort, hnt, hln]; cbv; try simp only [hne, hor, hort, hnt, hln]; cbv) ?_
  refine goA 60 ?_
  refine fn_ret rfl rfl (.val ?_)
  exact congrArg Value.bool hR.symm
 have hln : iNe (lenA es) (lenA es2) = false := by simp only [ee]; simp; omega
 refine goB hX 0 (by conv => lhs; cbv; try simp only [hne, hor, hort, hnt, hln]; cbv; try simp only [hne, hor, hort, hnt, hln]; cbv; try simp only [hne, hor, hort, hnt, hln]; cbv; try simp only [hne, hor, hort, hnt, hln]; cbv) ?_
 refine goA 60 ?_
 refine pcG hcs ?_
 refine goB hX 0 (by conv => lhs; cbv; try simp only [hne, hor, hort, hnt, hln]; cbv; try simp only [hne, hor, hort, hnt, hln]; cbv; try simp only [hne, hor, hort, hnt, hln]; cbv; try simp only [hne, hor, hort, hnt, hln]; cbv) ?_
 refine goA 60 ?_
 refine on_loopP (ι := List Pat × List Pat × List Pat × List Pat × Int) (fun p => ([(5, int p.2.2.2.2), (2, .ptr 0 0), (3, .ptr 1 0)], [.cells [int o, .isl 14 es, int t, int v, int s, int n, int cCo, .isl 8 cC', int cv, int cf, int ck, int cxk, int cxn, str cxt], .cells [int o, .isl 14 es2, int t, int v, int s, int n, int dCo, .isl 8 dC', int dv, int df, int dk, int dxk, int dxn, str dxt]])) (fun p => a = p.1 ++ p.2.1 ∧ a2 = p.2.2.1 ++ p.2.2.2.1 ∧ p.2.2.2.2 = p.1.length ∧ p.1 = p.2.2.1) (fun p => p.2.1.length) ([], a, [], a2, 0) ⟨rfl, rfl, rfl, rfl⟩ ?_ ?_
 · exact (ent_sub [.to 0, .to 1] [some 0, some 1] ⟨⟨by simp, rfl⟩, ⟨by simp, rfl⟩, trivial⟩ ⟨osrc_cells (b := 0) rfl rfl rfl ⟨.refl _, .cl hcl, .refl _, .refl _, .refl _, .refl _, .refl _, .cl hcC, .refl _, .refl _, .refl _, .refl _, .refl _, .refl _, trivial⟩, osrc_cells (b := 1) rfl rfl rfl ⟨.refl _, .cl hcl2, .refl _, .refl _, .refl _, .refl _, .refl _, .cl hcD, .refl _, .refl _, .refl _, .refl _, .refl _, .refl _, trivial⟩, trivial⟩ ⟨.refl _, .refl _, .refl _, trivial⟩)
 rintro ⟨d, r, d2, r2, i⟩ ⟨g1, g2, gi, gd⟩
 dsimp only at g1 g2 gi gd ⊢
 subst gd
 cases r with
 | nil =>
  have L1 := len_split g1
  try simp only [List.length_cons, List.length_nil] at L1
  have hc : iLt i (lenA es) = false := lt_f e_iLt e_lenA (by omega)
  have L2 := len_split g2
  try simp only [List.length_cons, List.length_nil] at L2
  have hr2 : r2 = [] := List.length_eq_zero_iff.1 (by omega)
  have hR : R = true := by rw [hRe]; exact eqB_t (by rw [g1, g2, hr2])
  refine goB hX 0 (by conv => lhs; cbv; try simp only [hc]; cbv; try simp only [hc]; cbv; try simp only [hc]; cbv; try simp only [hc]; cbv) ?_
  refine goA 60 ?_
  refine loopP_exit ?_
  refine goA 60 ?_
  refine fn_ret rfl rfl (.val ?_)
  exact congrArg Value.bool hR.symm
 | cons q r =>
  have L1 := len_split g1
  try simp only [List.length_cons, List.length_nil] at L1
  have hc : iLt i (lenA es) = true := lt_t e_iLt e_lenA (by omega)
  have hat := el_at e_atA hes g1 gi
  have L2 := len_split g2
  try simp only [List.length_cons, List.length_nil] at L2
  cases r2 with
  | nil => exfalso; simp at L2; omega
  | cons q2 r2 =>
   have hat2 := el_at e_atA hes2 g2 gi
   have hq := hih q (by rw [g1]; simp) q2
   have hqc := Pat.closed q
   have hqc2 := Pat.closed q2
   obtain ⟨qO, qA, qT, qV, qS, qN, qCo, qCa, qCv, qCf, qCk, qXk, qXn, qXt, hx⟩ := Pat.form q
   obtain ⟨q2O, q2A, q2T, q2V, q2S, q2N, q2Co, q2Ca, q2Cv, q2Cf, q2Ck, q2Xk, q2Xn, q2Xt, hx2⟩ := Pat.form q2
   rw [hx, hx2] at hq
   rw [hx] at hat hqc
   rw [hx2] at hat2 hqc2
   have hi2 : iAdd .i64 i 1 = ((d ++ [q]).length : Int) := by rw [List.length_append]; exact inc_w e_iAdd gi (by omega)
   by_cases hqq : q = q2
   · rw [eqB_t hqq] at hq
    refine goB hX 0 (by conv => lhs; cbv; try simp only [hc, hat, hat2, hnt]; cbv; try simp only [hc, hat, hat2, hnt]; cbv; try simp only [hc, hat, hat2, hnt]; cbv; try simp only [hc, hat, hat2, hnt]; cbv) ?_
    refine goB hX 1 (by conv => lhs; cbv; try simp only [hc, hat, hat2, hnt]; cbv; try simp only [hc, hat, hat2, hnt]; cbv; try simp only [hc, hat, hat2, hnt]; cbv; try simp only [hc, hat, hat2, hnt]; cbv) ?_
    refine tr_drawB rfl (by conv => lhs; cbv) rfl ?_
    refine tgB hX (by conv => lhs; cbv; try simp only [hc, hat, hat2, hnt]; cbv; try simp only [hc, hat, hat2, hnt]; cbv; try simp only [hc, hat, hat2, hnt]; cbv; try simp only [hc, hat, hat2, hnt]; cbv) ?_
    refine pcT hq ?_
    refine tgA ?_
    refine tr_nil ⟨rfl, ?_, ?_⟩
    · simp only [LooksL, lookAll, List.append, List.cons_append, List.nil_append, List.append_nil]; and_intros <;> first | trivial | (intro hp; first | rfl | exact absurd (show false = true from hp) Bool.false_ne_true)
    refine goB hX 0 (by conv => lhs; cbv; try simp only [hc, hat, hat2, hnt]; cbv; try simp only [hc, hat, hat2, hnt]; cbv; try simp only [hc, hat, hat2, hnt]; cbv; try simp only [hc, hat, hat2, hnt]; cbv) ?_
    refine goA 60 ?_
    refine loopP_next (d ++ [q], r, d ++ [q2], r2, iAdd .i64 i 1) ⟨by simp [g1], by simp [g2], hi2, by simp [hqq]⟩ (by simp) (ent_sub [.to 0, .to 1] [some 0, some 1] ⟨⟨by simp, rfl⟩, ⟨by simp, rfl⟩, trivial⟩ ⟨osrc_cells (b := 0) rfl rfl rfl ⟨.refl _, .cl hcl, .refl _, .refl _, .refl _, .refl _, .refl _, .cl hcC, .refl _, .refl _, .refl _, .refl _, .refl _, .refl _, trivial⟩, osrc_cells (b := 1) rfl rfl rfl ⟨.refl _, .cl hcl2, .refl _, .refl _, .refl _, .refl _, .refl _, .cl hcD, .refl _, .refl _, .refl _, .refl _, .refl _, .refl _, trivial⟩, trivial⟩ ⟨.refl _, .refl _, .refl _, trivial⟩)
   · rw [eqB_f hqq] at hq
    have hR : R = false := by rw [hRe]; exact eqB_f (by rw [g1, g2]; simp [hqq])
    refine goB hX 0 (by conv => lhs; cbv; try simp only [hc, hat, hat2, hnf]; cbv; try simp only [hc, hat, hat2, hnf]; cbv; try simp only [hc, hat, hat2, hnf]; cbv; try simp only [hc, hat, hat2, hnf]; cbv) ?_
    refine goB hX 1 (by conv => lhs; cbv; try simp only [hc, hat, hat2, hnf]; cbv; try simp only [hc, hat, hat2, hnf]; cbv; try simp only [hc, hat, hat2, hnf]; cbv; try simp only [hc, hat, hat2, hnf]; cbv) ?_
    refine tr_drawB rfl (by conv => lhs; cbv) rfl ?_
    refine tgB hX (by conv => lhs; cbv; try simp only [hc, hat, hat2, hnf]; cbv; try simp only [hc, hat, hat2, hnf]; cbv; try simp only [hc, hat, hat2, hnf]; cbv; try simp only [hc, hat, hat2, hnf]; cbv) ?_
    refine pcT hq ?_
    refine tgA ?_
    refine tr_nil ⟨rfl, ?_, ?_⟩
    · simp only [LooksL, lookAll, List.append, List.cons_append, List.nil_append, List.append_nil]; and_intros <;> first | trivial | (intro hp; first | rfl | exact absurd (show false = true from hp) Bool.false_ne_true)
    refine goB hX 0 (by conv => lhs; cbv; try simp only [hc, hat, hat2, hnf]; cbv; try simp only [hc, hat, hat2, hnf]; cbv; try simp only [hc, hat, hat2, hnf]; cbv; try simp only [hc, hat, hat2, hnf]; cbv) ?_
    refine goA 60 ?_
    refine loopP_ret ?_
    refine goA 60 ?_
    refine fn_ret rfl rfl (.val ?_)
    exact congrArg Value.bool hR.symm
end Go.Am
end
section
set_option maxHeartbeats 16000000
set_option linter.unusedVariables false
set_option linter.unusedSimpArgs false
set_option maxRecDepth 20000
namespace Go.Am
open Go.Proofs
theorem P_example (a b : Int) : PCall EE 33 [int a, int b] (exampleP a b).enc := by
 have h1 := P_event 1 b
 have h2 := P_event 0 a
 have hR : (exampleP a b).enc = .agg [int 1, .isl 14 [(eventP 0 a).enc, .agg [int 6, .isl 14 [.agg [int 4, .isl 14 [(eventP 1 b).enc], int 0, int 0, int 0, int 0, int 0, .isl 8 [], int 0, int 0, int 0, int 0, int 0, str ⟨#[]⟩]], int 0, int 0, int 0, int 5, int 0, .isl 8 [], int 0, int 0, int 0, int 0, int 0, str ⟨#[]⟩]], int 0, int 0, int 0, int 0, int 0, .isl 8 [], int 0, int 0, int 0, int 0, int 0, str ⟨#[]⟩] := by
  simp only [exampleP, Ex0, Pat.enc_mk, mapE_eq, List.map_cons, List.map_nil, Vl0]
 rw [hR]
 have c1 := Pat.closed (eventP 1 b)
 have c2 := Pat.closed (eventP 0 a)
 generalize eventP 1 b = p1 at *
 generalize eventP 0 a = p2 at *
 obtain ⟨p1O, p1A, p1T, p1V, p1S, p1N, p1Co, p1Ca, p1Cv, p1Cf, p1Ck, p1Xk, p1Xn, p1Xt, hx1⟩ := Pat.form p1
 obtain ⟨p2O, p2A, p2T, p2V, p2S, p2N, p2Co, p2Ca, p2Cv, p2Cf, p2Ck, p2Xk, p2Xn, p2Xt, hx2⟩ := Pat.form p2
 rw [hx1] at h1 c1 ⊢
 rw [hx2] at h2 c2 ⊢
 clear hR hx1 hx2
 refine PCall.weak2 (v := .agg [int 1, .isl 14 [.agg [int p2O, .isl 14 p2A, int p2T, int p2V, int p2S, int p2N, int p2Co, .isl 8 p2Ca, int p2Cv, int p2Cf, int p2Ck, int p2Xk, int p2Xn, str p2Xt], .agg [int 6, .isl 14 [.agg [int 4, .isl 14 [.agg [int p1O, .isl 14 p1A, int p1T, int p1V, int p1S, int p1N, int p1Co, .isl 8 p1Ca, int p1Cv, int p1Cf, int p1Ck, int p1Xk, int p1Xn, str p1Xt]], int 0, int 0, int 0, int 0, int 0, .val (.slice none 0 0), int 0, int 0, int 0, int 0, int 0, str ⟨#[]⟩]], int 0, int 0, int 0, int 5, int 0, .val (.slice none 0 0), int 0, int 0, int 0, int 0, int 0, str ⟨#[]⟩]], int 0, int 0, int 0, int 0, int 0, .val (.slice none 0 0), int 0, int 0, int 0, int 0, int 0, str ⟨#[]⟩]) ?_ ?_
 rotate_left
 · exact .agg' ⟨.refl _, .isl' ⟨.refl _, ⟨.refl _, .isl' ⟨⟨.refl _, .refl _, .refl _, .refl _, .refl _, .refl _, .refl _, .nilI _, .refl _, .refl _, .refl _, .refl _, .refl _, .refl _, trivial⟩, trivial⟩, .refl _, .refl _, .refl _, .refl _, .refl _, .nilI _, .refl _, .refl _, .refl _, .refl _, .refl _, .refl _, trivial⟩, trivial⟩, .refl _, .refl _, .refl _, .refl _, .refl _, .nilI _, .refl _, .refl _, .refl _, .refl _, .refl _, .refl _, trivial⟩
 refine wordsN ?_; unhygienic intros
 refine fn_body (fn := Tryz.f33) (n := 17) (ac := Tryzc33) (rvs := [.cell 4 14 true]) rfl (by decide) Tryzp33 rfl rfl rfl ?_
 refine goA 60 ?_
 refine pcA h1 ?_
 refine goA 60 ?_
 refine tr_drawB rfl (by conv => lhs; cbv) rfl ?_
 refine tgA ?_
 refine pcT h2 ?_
 refine tgA ?_
 refine tr_nil ⟨rfl, ?_, ?_⟩
 · simp only [LooksL, lookAll, List.append, List.cons_append, List.nil_append, List.append_nil]; and_intros <;> first | trivial | (intro hp; first | rfl | exact absurd (show false = true from hp) Bool.false_ne_true)
 refine goA 60 ?_
 refine fn_ret rfl rfl ?_
 have hp1 : ∀ σ, AV.sub σ (.agg [int p1O, .isl 14 p1A, int p1T, int p1V, int p1S, int p1N, int p1Co, .isl 8 p1Ca, int p1Cv, int p1Cf, int p1Ck, int p1Xk, int p1Xn, str p1Xt]) = .agg [int p1O, .isl 14 p1A, int p1T, int p1V, int p1S, int p1N, int p1Co, .isl 8 p1Ca, int p1Cv, int p1Cf, int p1Ck, int p1Xk, int p1Xn, str p1Xt] := fun σ => sub_closed _ _ _ (Nat.le_refl _) c1
 have hp2 : ∀ σ, AV.sub σ (.agg [int p2O, .isl 14 p2A, int p2T, int p2V, int p2S, int p2N, int p2Co, .isl 8 p2Ca, int p2Cv, int p2Cf, int p2Ck, int p2Xk, int p2Xn, str p2Xt]) = .agg [int p2O, .isl 14 p2A, int p2T, int p2V, int p2S, int p2N, int p2Co, .isl 8 p2Ca, int p2Cv, int p2Cf, int p2Ck, int p2Xk, int p2Xn, str p2Xt] := fun σ => sub_closed _ _ _ (Nat.le_refl _) c2
 exact ⟨[.gone, .isl 14 [.agg [int p1O, .isl 14 p1A, int p1T, int p1V, int p1S, int p1N, int p1Co, .isl 8 p1Ca, int p1Cv, int p1Cf, int p1Ck, int p1Xk, int p1Xn, str p1Xt]], .gone, .isl 14 [.agg [int 4, .isl 14 [.agg [int p1O, .isl 14 p1A, int p1T, int p1V, int p1S, int p1N, int p1Co, .isl 8 p1Ca, int p1Cv, int p1Cf, int p1Ck, int p1Xk, int p1Xn, str p1Xt]], int 0, int 0, int 0, int 0, int 0, .val (.slice none 0 0), int 0, int 0, int 0, int 0, int 0, str ⟨#[]⟩]], .isl 14 [.agg [int p2O, .isl 14 p2A, int p2T, int p2V, int p2S, int p2N, int p2Co, .isl 8 p2Ca, int p2Cv, int p2Cf, int p2Ck, int p2Xk, int p2Xn, str p2Xt], .agg [int 6, .isl 14 [.agg [int 4, .isl 14 [.agg [int p1O, .isl 14 p1A, int p1T, int p1V, int p1S, int p1N, int p1Co, .isl 8 p1Ca, int p1Cv, int p1Cf, int p1Ck, int p1Xk, int p1Xn, str p1Xt]], int 0, int 0, int 0, int 0, int 0, .val (.slice none 0 0), int 0, int 0, int 0, int 0, int 0, str ⟨#[]⟩]], int 0, int 0, int 0, int 5, int 0, .val (.slice none 0 0), int 0, int 0, int 0, int 0, int 0, str ⟨#[]⟩]]], ⟨trivial, ⟨_, rfl, by simp only [AV.subL, hp1]⟩, trivial, ⟨_, rfl, by rfl⟩, ⟨_, rfl, by simp only [AV.subL, hp2]; rfl⟩, trivial⟩, .of rfl⟩
end Go.Am
end
section
set_option maxHeartbeats 16000000
set_option linter.unusedVariables false
set_option linter.unusedSimpArgs false
set_option maxRecDepth 20000
namespace Go.Am
open Go.Proofs
def lacksP : Pat := .mk 5 [eventP 0 1] 1 0 0 0 yesE
theorem ex_nodes (a b : Int) : (exampleP a b).nodes = [exampleP a b, eventP 0 a, .mk 6 [.mk 4 [eventP 1 b] 0 0 0 0 Ex0] 0 0 0 5 Ex0, .mk 4 [eventP 1 b] 0 0 0 0 Ex0, eventP 1 b] := by
 simp [exampleP, eventP, Pat.nodes, Pat.nodesL]
theorem yes_sm : yesE.Sm := by simp [Ex.Sm, yesE, Ex.cnt, Ex.cntL]
theorem ex0_sm : Ex0.Sm := by simp [Ex.Sm, Ex0, Ex.cnt, Ex.cntL]
theorem ex_sm (a b : Int) : (exampleP a b).Sm := by
 refine (Pat.Sm_iff _).2 ⟨by rw [ex_nodes]; simp, ?_⟩
 rw [ex_nodes]
 intro q hq
 simp at hq
 rcases hq with rfl | rfl | rfl | rfl | rfl <;> simp [exampleP, eventP, Pat.cond, yes_sm, ex0_sm]
theorem lk_nodes : lacksP.nodes = [lacksP, eventP 0 1] := by simp [lacksP, eventP, Pat.nodes, Pat.nodesL]
theorem lk_sm : lacksP.Sm := by
 refine (Pat.Sm_iff _).2 ⟨by rw [lk_nodes]; simp, ?_⟩
 rw [lk_nodes]
 intro q hq
 simp at hq
 rcases hq with rfl | rfl <;> simp [lacksP, eventP, Pat.cond, yes_sm]
theorem ex_cnt (a b : Int) : (exampleP a b).cnt = 5 := by rw [← Pat.nodes_len, ex_nodes]; rfl
theorem ex_dep (a b : Int) : (exampleP a b).dep = 4 := by simp [exampleP, eventP, Pat.dep, Pat.depL]
theorem lk_cnt : lacksP.cnt = 2 := by rw [← Pat.nodes_len, lk_nodes]; rfl
theorem lk_dep : lacksP.dep = 2 := by simp [lacksP, eventP, Pat.dep, Pat.depL]
theorem yes_chk : yesE.chk = 0 := by
 have h1 : yesE.cnt = 1 := by simp [yesE, Ex.cnt, Ex.cntL]
 have h2 : yesE.dep = 1 := by simp [yesE, Ex.dep, Ex.depL]
 have h3 : yesE.nodes = [yesE] := by simp [yesE, Ex.nodes, Ex.nodesL]
 rw [Ex.chk, h1, h2, h3]
 have hz : (⟨#[]⟩ : ByteArray).size = 0 := rfl
 simp [hz, firstE, Ex.nodeE, yesE, Ex.op, Ex.args, Ex.var, Ex.fld, Ex.kind, Ex.val, Ex.consE, Ex.formB, arityB, arityN, usesV, usesF, Vl.chk, Vl.sizeE]
theorem ev_node (k v : Int) (hk : 0 ≤ k ∧ k ≤ 15) (hv : 0 ≤ v ∧ v ≤ 15) : (eventP k v).nodeE = 0 := by
 have := yes_chk
 simp [Pat.nodeE, eventP, Pat.op, Pat.args, Pat.ty, Pat.var, Pat.scope, Pat.span, Pat.cond, leastF, mostF, typedF, condF, scopeF, spanF, this]
 omega
theorem ex_node (a b : Int) (ha : 0 ≤ a ∧ a ≤ 15) (hb : 0 ≤ b ∧ b ≤ 15) : ∀ q ∈ (exampleP a b).nodes, q.nodeE = 0 := by
 rw [ex_nodes]
 intro q hq
 simp at hq
 rcases hq with rfl | rfl | rfl | rfl | rfl
 · simp [Pat.nodeE, exampleP, Pat.op, Pat.args, Pat.ty, Pat.var, Pat.scope, Pat.span, Pat.cond, leastF, mostF, typedF, condF, scopeF, spanF]
 · exact ev_node _ _ (by omega) ha
 · simp [Pat.nodeE, exampleP, Pat.op, Pat.args, Pat.ty, Pat.var, Pat.scope, Pat.span, Pat.cond, leastF, mostF, typedF, condF, scopeF, spanF]
 · simp [Pat.nodeE, exampleP, Pat.op, Pat.args, Pat.ty, Pat.var, Pat.scope, Pat.span, Pat.cond, leastF, mostF, typedF, condF, scopeF, spanF]
 · exact ev_node _ _ (by omega) hb
theorem ex_chkR (a b : Int) (ha : 0 ≤ a ∧ a ≤ 15) (hb : 0 ≤ b ∧ b ≤ 15) : (exampleP a b).chkR = 0 := by
 rw [Pat.chkR, ex_cnt, ex_dep, if_neg (by decide), if_neg (by decide)]
 exact firstE_ok (ex_node a b ha hb)
theorem ex_whole (a b : Int) (ha : 0 ≤ a ∧ a ≤ 15) (hb : 0 ≤ b ∧ b ≤ 15) : (exampleP a b).wholeE = 0 := by
 rw [Pat.wholeE, ex_chkR a b ha hb, ex_nodes]
 simp [firstE, exampleP, eventP, Pat.op]
theorem ex_chk (a b : Int) (ha : 0 ≤ a ∧ a ≤ 15) (hb : 0 ≤ b ∧ b ≤ 15) : (exampleP a b).chk = if a = 0 ∧ b = 1 then 0 else 14 := by
 rw [Pat.chk, ex_whole a b ha hb, ex_nodes]
 simp [cfold, cstep, exampleP, eventP, Pat.op, Pat.var, Pat.scope, typedF, scopeF]
theorem ex_path : (exampleP 0 1).path 1 = [exampleP 0 1, .mk 6 [.mk 4 [eventP 1 1] 0 0 0 0 Ex0] 0 0 0 5 Ex0, .mk 4 [eventP 1 1] 0 0 0 0 Ex0, eventP 1 1] := by
 simp [exampleP, eventP, Pat.path, Pat.pathL, consP]
theorem ex_around : (exampleP 0 1).aroundE 1 = 0 := by
 rw [Pat.aroundE, ex_chkR 0 1 (by omega) (by omega), ex_path]; simp
theorem ex_lims : (exampleP 0 1).lims 1 = [⟨0, 5⟩] := by
 rw [Pat.lims, ex_around, ex_path]
 simp [limsF, exampleP, eventP, Pat.op, Pat.scope, Pat.span]
theorem ex_scs : (exampleP 0 1).scs 1 = [] := by
 rw [Pat.scs, ex_around, ex_path]
 simp [scsF, exampleP, eventP, Pat.op]
theorem lk_chk : lacksP.chk = 0 := by
 have h0 : ∀ q ∈ lacksP.nodes, q.nodeE = 0 := by
  have := yes_chk
  rw [lk_nodes]
  intro q hq
  simp at hq
  rcases hq with rfl | rfl
  · simp [Pat.nodeE, lacksP, Pat.op, Pat.args, Pat.ty, Pat.var, Pat.scope, Pat.span, Pat.cond, leastF, mostF, typedF, condF, scopeF, spanF, this]
  · exact ev_node _ _ (by omega) (by omega)
 have h1 : lacksP.chkR = 0 := by
  rw [Pat.chkR, lk_cnt, lk_dep, if_neg (by decide), if_neg (by decide)]
  exact firstE_ok h0
 have h2 : lacksP.wholeE = 0 := by
  rw [Pat.wholeE, h1, lk_nodes]
  simp [firstE, lacksP, eventP, Pat.op]
 rw [Pat.chk, h2, lk_nodes]
 simp [cfold, cstep, lacksP, eventP, Pat.op, Pat.var, Pat.scope, typedF, scopeF]
theorem lk_bound : lacksP.bound = [1] := by
 rw [Pat.bound, lk_nodes]
 have : bndF [lacksP, eventP 0 1] = [1] := by simp [bndF, lacksP, eventP, Pat.op, Pat.var]
 rw [this]
 have : sortI [1] = [1] := by simp [sortI]
 rw [this]
 rfl
theorem ex_olds (a b : Int) : oldsF (exampleP a b).nodes = [a, b] := by
 rw [ex_nodes]; simp [oldsF, exampleP, eventP, Pat.op, Pat.var, typedF]
theorem yes_vars : yesE.vars = [] := by rfl
theorem ex_numE : (exampleP 3 7).numE = 0 := by
 rw [Pat.numE, ex_whole 3 7 (by omega) (by omega), ex_olds, ex_nodes]
 simp [firstE, lacksF, exampleP, eventP, Pat.op, Pat.cond, condF, yes_vars]
theorem yes_ren (to : List Int) : yesE.rename to = yesE := by
 have h3 : yesE.nodes = [yesE] := by simp [yesE, Ex.nodes, Ex.nodesL]
 have : yesE.renErr to = 0 := by
  rw [Ex.renErr, yes_chk, h3]
  simp [firstE, renE, yesE, Ex.op, usesV]
 rw [Ex.rename, this, if_pos rfl]
 simp [yesE, Ex.reb, Ex.rebL, renG, Ex.op, usesV]
theorem ex_numX : (exampleP 3 7).numX = exampleP 0 1 := by
 have h3 : (toF [3, 7]).getD 3 0 = 0 := by rfl
 have h7 : (toF [3, 7]).getD 7 0 = 1 := by rfl
 rw [Pat.numX, ex_numE, if_pos rfl, ex_olds]
 generalize toF [3, 7] = to at *
 simp only [exampleP, eventP, Pat.ren, Pat.renL]
 simp [typedF, condF, yes_ren, Pat.numb, Pat.numbL, scopeF] at h3 h7 ⊢
 simp [h3, h7, Pat.nsc, Pat.nscL, scopeF]
theorem ex_numO : (exampleP 3 7).numO = [3, 7] := by
 rw [Pat.numO, ex_numE, if_pos rfl, ex_olds]
theorem P_awake : PCall EE 8 [] (bool true) := by
 have q1 := P_example 0 1
 have q2 := P_example 3 7
 have q3 := P_pattern_Size (exampleP 0 1) (ex_sm 0 1)
 have q4 := P_Around (exampleP 0 1) 1 (ex_sm 0 1)
 have q5 := P_Number (exampleP 3 7) (ex_sm 3 7)
 have q6 := P_SameLimits [⟨0, 5⟩] [⟨0, 5⟩] (by decide)
 have q7 := P_pattern_Check (exampleP 0 1) (ex_sm 0 1)
 have q8 := P_pattern_Check (exampleP 3 7) (ex_sm 3 7)
 have q9 := P_ref09_Same (exampleP 0 1) (exampleP 0 1) (ex_sm 0 1)
 have qA := P_SameInts [3, 7] [3, 7] (by decide)
 have qB := P_event 0 1
 have qC := P_yes
 have qD := P_pattern_Check lacksP lk_sm
 have qE := P_Bound lacksP lk_sm
 have qF := P_SameInts [1] [1] (by decide)
 rw [ex_cnt, ex_dep] at q3
 rw [ex_lims, ex_scs, ex_around] at q4
 rw [ex_numX, ex_numO, ex_numE] at q5
 rw [eqB_t rfl] at q6 q9 qA qF
 rw [ex_chk _ _ (by omega) (by omega)] at q7 q8
 rw [lk_chk] at qD
 rw [lk_bound] at qE
 simp only [mapE_eq, List.map_cons, List.map_nil, Lim.enc] at q4 q5 q6 qA qE qF
 have kc1 := Pat.closed (exampleP 0 1)
 have kc2 := Pat.closed (exampleP 3 7)
 have kc3 := Pat.closed (eventP 0 1)
 have kc4 := Ex.closed yesE
 have kc5 := Pat.closed lacksP
 have hl : lacksP.enc = .agg ([int 5, .isl 14 [(eventP 0 1).enc], int 1, int 0, int 0, int 0] ++ (match yesE.enc with | .agg l => l | _ => [])) := by
  rw [lacksP, yesE, Pat.enc_mk, Ex.enc_mk, mapE_eq]; rfl
 generalize exampleP 0 1 = pa at *
 generalize exampleP 3 7 = pb at *
 generalize lacksP = pl at *
 generalize eventP 0 1 = pe at *
 generalize yesE = py at *
 obtain ⟨paO, paA, paT, paV, paS, paN, paCo, paCa, paCv, paCf, paCk, paXk, paXn, paXt, hxa⟩ := Pat.form pa
 obtain ⟨pbO, pbA, pbT, pbV, pbS, pbN, pbCo, pbCa, pbCv, pbCf, pbCk, pbXk, pbXn, pbXt, hxb⟩ := Pat.form pb
 obtain ⟨peO, peA, peT, peV, peS, peN, peCo, peCa, peCv, peCf, peCk, peXk, peXn, peXt, hxe⟩ := Pat.form pe
 obtain ⟨pyO, pyA, pyV, pyF, pyK, pyXk, pyXn, pyXt, hxy⟩ := Ex.form py
 rw [hxe, hxy] at hl
 dsimp only [List.cons_append, List.nil_append] at hl
 rw [hxa] at q1 q3 q4 q5 q7 q9 kc1
 rw [hxb] at q2 q5 q8 kc2
 rw [hxe] at qB kc3
 rw [hxy] at qC kc4
 rw [hl] at qD qE kc5
 refine wordsN ?_; unhygienic intros
 refine fn_body (fn := Tryz.f8) (n := 92) (ac := Tryzc8) (rvs := [.t 0]) rfl (by decide) Tryzp8 rfl rfl rfl ?_
 refine goA 60 ?_
 refine pcA q1 ?_
 refine pcA q2 ?_
 refine goA 60 ?_
 refine pcA q3 ?_
 refine goA 60 ?_
 refine pcA q4 ?_
 refine goA 60 ?_
 refine pcA q5 ?_
 refine goA 0 ?_
 refine on_guard rfl rfl (fun c1 => ?_) (fun c1 => ?_)
 ·
  simp [ee] at c1
 ·
  simp [ee] at c1
  refine goA 60 ?_
  refine on_lend rfl rfl q6 rfl ⟨[.gone, .gone, .gone, .isl 2 ([AV.agg [AV.val (Value.int IntKind.i64 0), AV.val (Value.int IntKind.i64 5)]])], ⟨trivial, trivial, trivial, ⟨_, rfl, (subL_closed _ (by rfl)).symm⟩, trivial⟩, ⟨.refl _, .refl _, trivial⟩⟩ ?_
  refine goA 0 ?_
  refine on_guard rfl rfl (fun c2 => ?_) (fun c2 => ?_)
  ·
   simp [ee] at c2
  ·
   simp [ee] at c2
   refine goA 60 ?_
   refine pcG q7 ?_
   refine goA 0 ?_
   refine on_guard rfl rfl (fun c3 => ?_) (fun c3 => ?_)
   ·
    simp [ee] at c3
   ·
    simp [ee] at c3
    refine goA 60 ?_
    refine pcG q8 ?_
    refine goA 0 ?_
    refine on_guard rfl rfl (fun c4 => ?_) (fun c4 => ?_)
    ·
     simp [ee] at c4
    ·
     simp [ee] at c4
     refine goA 60 ?_
     refine pcG q9 ?_
     refine goA 0 ?_
     refine on_guard rfl rfl (fun c5 => ?_) (fun c5 => ?_)
     ·
      simp [ee] at c5
     ·
      simp [ee] at c5
      refine goA 60 ?_
      refine on_lend rfl rfl qA rfl ⟨[.gone, .gone, .gone, .gone, .isl 1 ([AV.val (Value.int IntKind.i64 3), AV.val (Value.int IntKind.i64 7)])], ⟨trivial, trivial, trivial, trivial, ⟨_, rfl, (subL_closed _ (by rfl)).symm⟩, trivial⟩, ⟨.refl _, .refl _, trivial⟩⟩ ?_
      refine goA 0 ?_
      refine on_cond rfl (fun c6 => ?_) (fun c6 => ?_)
      ·
       simp [ee] at c6
      ·
       simp [ee] at c6
       refine goA 60 ?_
       refine pcA qB ?_
       refine goA 60 ?_
       refine pcA qC ?_
       refine goA 60 ?_
       have kc6 : AV.closedL [.agg [int peO, .isl 14 peA, int peT, int peV, int peS, int peN, int peCo, .isl 8 peCa, int peCv, int peCf, int peCk, int peXk, int peXn, str peXt]] = true := closed1 kc3
       have kc7 : (AV.isl 8 pyA).closed = true := by have := kc4; simp [AV.closed, AV.closedL] at this ⊢; exact this
       refine on_entO (F' := [(83, .agg [int 5, .isl 14 [.agg [int peO, .isl 14 peA, int peT, int peV, int peS, int peN, int peCo, .isl 8 peCa, int peCv, int peCf, int peCk, int peXk, int peXn, str peXt]], int 1, int 0, int 0, int 0, int pyO, .isl 8 pyA, int pyV, int pyF, int pyK, int pyXk, int pyXn, str pyXt]), (11, .ptr 0 0)]) (H' := [.cells [int 5, .isl 14 [.agg [int peO, .isl 14 peA, int peT, int peV, int peS, int peN, int peCo, .isl 8 peCa, int peCv, int peCf, int peCk, int peXk, int peXn, str peXt]], int 1, int 0, int 0, int 0, int pyO, .isl 8 pyA, int pyV, int pyF, int pyK, int pyXk, int pyXn, str pyXt]]) ?_ ?_
       · exact (ent_sub [.gone, .gone, .gone, .gone, .gone, .isl 14 ([AV.agg [AV.val (Value.int IntKind.i64 peO), AV.isl 14 peA, AV.val (Value.int IntKind.i64 peT), AV.val (Value.int IntKind.i64 peV), AV.val (Value.int IntKind.i64 peS), AV.val (Value.int IntKind.i64 peN), AV.val (Value.int IntKind.i64 peCo), AV.isl 8 peCa, AV.val (Value.int IntKind.i64 peCv), AV.val (Value.int IntKind.i64 peCf), AV.val (Value.int IntKind.i64 peCk), AV.val (Value.int IntKind.i64 peXk), AV.val (Value.int IntKind.i64 peXn), AV.val (Value.string peXt)]]), .to 0] [some 6] ⟨trivial, trivial, trivial, trivial, trivial, ⟨_, rfl, (subL_closed _ kc6).symm⟩, ⟨by simp, rfl⟩, trivial⟩ ⟨osrc_cells (b := 6) rfl rfl rfl ⟨.refl _, .refl _, .refl _, .refl _, .refl _, .refl _, .refl _, .cl kc7, .refl _, .refl _, .refl _, .refl _, .refl _, .refl _, trivial⟩, trivial⟩ ⟨.agg' ⟨.refl _, .refl _, .refl _, .refl _, .refl _, .refl _, .refl _, .cl kc7, .refl _, .refl _, .refl _, .refl _, .refl _, .refl _, trivial⟩, .refl _, trivial⟩)
       refine pcA qD ?_
       refine goA 0 ?_
       refine on_guard rfl rfl (fun c1 => ?_) (fun c1 => ?_)
       ·
        simp [ee] at c1
        refine goA 60 ?_
        refine pcG qE ?_
        refine goA 60 ?_
        refine on_lend rfl rfl qF rfl ⟨[.gone, .isl 1 ([AV.val (Value.int IntKind.i64 1)])], ⟨trivial, ⟨_, rfl, (subL_closed _ (by rfl)).symm⟩, trivial⟩, ⟨.refl _, .refl _, trivial⟩⟩ ?_
        refine goA 60 ?_
        refine fn_ret rfl rfl (.val ?_)
        rfl
       ·
        simp [ee] at c1
end Go.Am
end
section
set_option maxHeartbeats 16000000
set_option linter.unusedVariables false
set_option linter.unusedSimpArgs false
set_option maxRecDepth 20000
namespace Go.Am
open Go.Proofs
mutual
def Ex.tot (lim : Nat) : Ex → Nat
 | .mk _ a _ _ _ _ => Ex.totL lim 1 a
def Ex.totL (lim : Nat) : Nat → List Ex → Nat
 | n, [] => n
 | n, e :: r => if n ≤ lim then Ex.totL lim (n + e.tot lim) r else n
end
theorem Ex.totL_le {lim : Nat} {l : List Ex} (h : ∀ e ∈ l, e.tot lim ≤ e.cnt) : ∀ n, Ex.totL lim n l ≤ n + Ex.cntL l := by
 induction l with
 | nil => intro n; simp [Ex.totL]
 | cons e r ih =>
  intro n
  have h1 := h e (by simp)
  have h2 := ih (fun e he => h e (by simp [he])) (n + e.tot lim)
  simp only [Ex.totL, Ex.cntL]; split <;> omega
theorem Ex.tot_le (lim : Nat) : ∀ e : Ex, e.tot lim ≤ e.cnt := Ex.ind fun o a v f k x h => by
 have := Ex.totL_le h 1
 simp only [Ex.tot, Ex.cnt]; omega
theorem Ex.totL_eq {lim : Nat} {l : List Ex} (h : ∀ e ∈ l, e.cnt ≤ lim → e.tot lim = e.cnt) : ∀ n, n + Ex.cntL l ≤ lim → Ex.totL lim n l = n + Ex.cntL l := by
 induction l with
 | nil => intro n _; simp [Ex.totL, Ex.cntL]
 | cons e r ih =>
  intro n hn
  simp only [Ex.cntL] at hn ⊢
  have h1 := h e (by simp) (by omega)
  rw [Ex.totL, if_pos (by omega), ih (fun e he => h e (by simp [he])) _ (by omega)]; omega
theorem Ex.tot_eq {lim : Nat} : ∀ e : Ex, e.cnt ≤ lim → e.tot lim = e.cnt := Ex.ind fun o a v f k x h hl => by
 simp only [Ex.tot, Ex.cnt] at hl ⊢
 exact Ex.totL_eq h 1 hl
theorem Ex.totL_gt {lim : Nat} {l : List Ex} (h : ∀ e ∈ l, lim < e.cnt → lim < e.tot lim) : ∀ n, lim < n + Ex.cntL l → lim < Ex.totL lim n l := by
 induction l with
 | nil => intro n hn; simpa [Ex.totL, Ex.cntL] using hn
 | cons e r ih =>
  intro n hn
  simp only [Ex.cntL] at hn
  rw [Ex.totL]
  split
  · refine ih (fun e he => h e (by simp [he])) _ ?_
   by_cases hc : e.cnt ≤ lim
   · rw [Ex.tot_eq e hc]; omega
   · have := h e (by simp) (by omega); omega
  · omega
theorem Ex.tot_gt {lim : Nat} : ∀ e : Ex, lim < e.cnt → lim < e.tot lim := Ex.ind fun o a v f k x h hl => by
 simp only [Ex.tot, Ex.cnt] at hl ⊢
 exact Ex.totL_gt h 1 hl
theorem Ex.tot_iff (e : Ex) (lim : Nat) : e.tot lim ≤ lim ↔ e.cnt ≤ lim := by
 by_cases h : e.cnt ≤ lim
 · rw [Ex.tot_eq e h]
 · have := Ex.tot_gt (lim := lim) e (by omega); omega
theorem P_ref08_Count (lim : Nat) (hlim : lim ≤ 1099511627776) : ∀ p : Ex, p.Sm → PCall EE 63 [p.enc, int lim] (int (p.tot lim)) := by
 generalize hli : (lim : Int) = li
 refine Ex.ind ?_
 intro o a v f k x ih hs
 obtain ⟨xk, xn, xt⟩ := x
 have hlen := hs.len
 have hih : ∀ q ∈ a, PCall EE 63 [q.enc, int li] (int (q.tot lim)) := fun q hq => ih q hq (hs.arg hq)
 have hcl := Ex.closedI a
 have hcnt : Ex.cntL a ≤ 1048576 := by unfold Ex.Sm at hs; simp only [Ex.cnt] at hs; omega
 have hde := fun q : Ex => Ex.tot_le lim q
 simp only [Ex.tot]
 obtain ⟨R, hR⟩ : ∃ R, R = Ex.totL lim 1 a := ⟨_, rfl⟩
 rw [← hR, Ex.enc_mk]
 refine wordsN ?_; unhygienic intros
 generalize hes : mapE Ex.enc a = es at *
 have hel : es.length = a.length := by rw [← hes, mapE_len]
 refine fn_body (fn := Tryz.f63) (n := 29) (ac := Tryzc63) (rvs := [.t 4]) rfl (by decide) Tryzp63 rfl rfl rfl ?_
 refine goA 60 ?_
 refine on_loopP (ι := List Ex × List Ex × Int × Int) (fun p => ([(5, int p.2.2.2), (6, int p.2.2.1), (1, int li), (2, .ptr 0 0)], [.cells [int o, .isl 8 es, int v, int f, int k, int xk, int xn, str xt]])) (fun p => a = p.1 ++ p.2.1 ∧ p.2.2.1 = p.1.length ∧ p.2.2.2 ≤ 1 + Ex.cntL p.1 ∧ 0 ≤ p.2.2.2 ∧ R = Ex.totL lim p.2.2.2.toNat p.2.1) (fun p => p.2.1.length) ([], a, 0, 1) ⟨rfl, rfl, by simp [Ex.cntL], by simp, hR⟩ ?_ ?_
 · exact (ent_sub [.to 0] [some 0] ⟨⟨by simp, rfl⟩, trivial⟩ ⟨osrc_cells (b := 0) rfl rfl rfl ⟨.refl _, .cl hcl, .refl _, .refl _, .refl _, .refl _, .refl _, .refl _, trivial⟩, trivial⟩ ⟨.refl _, .refl _, .refl _, .refl _, trivial⟩)
 rintro ⟨d, r, i, nn⟩ ⟨g1, gi, gn, gp, gt⟩
 dsimp only at g1 gi gn gp gt ⊢
 have hnt : (nn.toNat : Int) = nn := Int.toNat_of_nonneg gp
 cases r with
 | nil =>
  have L1 := len_split g1
  try simp only [List.length_cons, List.length_nil] at L1
  have hc : iLt i (lenA es) = false := lt_f e_iLt e_lenA (by omega)
  rw [Ex.totL] at gt
  have hv : nn = (R : Int) := by omega
  have hb : ∀ b, bAnd false b = false := by simp [ee]
  refine goB hX 0 (by conv => lhs; cbv; try simp only [hc, hb]; cbv; try simp only [hc, hb]; cbv; try simp only [hc, hb]; cbv; try simp only [hc, hb]; cbv) ?_
  refine goA 60 ?_
  refine loopP_exit ?_
  refine goA 60 ?_
  refine fn_ret rfl rfl (.val ?_)
  exact congrArg (Value.int .i64) hv
 | cons q r =>
  have L1 := len_split g1
  try simp only [List.length_cons, List.length_nil] at L1
  have hc : iLt i (lenA es) = true := lt_t e_iLt e_lenA (by omega)
  have hat := el_at e_atA hes g1 gi
  have hq := hih q (by rw [g1]; simp)
  have hqc := Ex.closed q
  have hqd := hde q
  rw [g1, Ex.cntL_append, Ex.cntL] at hcnt
  obtain ⟨qO, qA, qV, qF, qK, qXk, qXn, qXt, hx⟩ := Ex.form q
  rw [hx] at hq hat hqc
  have hb : ∀ b, bAnd true b = b := by simp [ee]
  rw [Ex.totL] at gt
  by_cases hle : nn ≤ li
  · have h2 : iLe nn li = true := by simp [ee]; omega
   rw [if_pos (by omega)] at gt
   generalize hqn : (q.tot lim : Int) = qn at hq
   have hn2 : iAdd .i64 nn qn = nn + qn := add_w e_iAdd (by omega) (by omega)
   have hi2 : iAdd .i64 i 1 = ((d ++ [q]).length : Int) := by rw [List.length_append]; exact inc_w e_iAdd gi (by omega)
   have hn4 : iAdd .i64 nn qn ≤ 1 + Ex.cntL (d ++ [q]) ∧ 0 ≤ iAdd .i64 nn qn := by rw [Ex.cntL_append, Ex.cntL, Ex.cntL, hn2]; omega
   have hn3 : (iAdd .i64 nn qn).toNat = nn.toNat + q.tot lim := by omega
   refine goB hX 0 (by conv => lhs; cbv; try simp only [hc, hat, hb, h2]; cbv; try simp only [hc, hat, hb, h2]; cbv; try simp only [hc, hat, hb, h2]; cbv; try simp only [hc, hat, hb, h2]; cbv) ?_
   refine goB hX 1 (by conv => lhs; cbv; try simp only [hc, hat, hb, h2]; cbv; try simp only [hc, hat, hb, h2]; cbv; try simp only [hc, hat, hb, h2]; cbv; try simp only [hc, hat, hb, h2]; cbv) ?_
   refine pcA hq ?_
   refine goA 60 ?_
   refine loopP_next (d ++ [q], r, iAdd .i64 i 1, iAdd .i64 nn qn) ⟨by simp [g1], hi2, hn4.1, hn4.2, hn3 ▸ gt⟩ (by simp) (ent_sub [.to 0] [some 0] ⟨⟨by simp, rfl⟩, trivial⟩ ⟨osrc_cells (b := 0) rfl rfl rfl ⟨.refl _, .cl hcl, .refl _, .refl _, .refl _, .refl _, .refl _, .refl _, trivial⟩, trivial⟩ ⟨.refl _, .refl _, .refl _, .refl _, trivial⟩)
  · have h2 : iLe nn li = false := by simp [ee]; omega
   rw [if_neg (by omega)] at gt
   have hv : nn = (R : Int) := by omega
   refine goB hX 0 (by conv => lhs; cbv; try simp only [hc, hat, hb, h2]; cbv; try simp only [hc, hat, hb, h2]; cbv; try simp only [hc, hat, hb, h2]; cbv; try simp only [hc, hat, hb, h2]; cbv) ?_
   refine goA 60 ?_
   refine loopP_exit ?_
   refine goA 60 ?_
   refine fn_ret rfl rfl (.val ?_)
   exact congrArg (Value.int .i64) hv
end Go.Am
end
section
set_option maxHeartbeats 16000000
set_option linter.unusedVariables false
set_option linter.unusedSimpArgs false
set_option maxRecDepth 20000
namespace Go.Am
open Go.Proofs
theorem P_ref08_Depth : ∀ p : Ex, p.Sm → PCall EE 64 [p.enc] (int p.dep) := by
 refine Ex.ind ?_
 intro o a v f k x ih hs
 obtain ⟨xk, xn, xt⟩ := x
 have hlen := hs.len
 have hih : ∀ q ∈ a, PCall EE 64 [q.enc] (int q.dep) := fun q hq => ih q hq (hs.arg hq)
 have hcl := Ex.closedI a
 have hcnt : Ex.cntL a ≤ 1048576 := by unfold Ex.Sm at hs; simp only [Ex.cnt] at hs; omega
 have hde := fun q : Ex => Ex.dep_le q
 simp only [Ex.dep]
 obtain ⟨R, hR⟩ : ∃ R, R = Ex.depL 0 a := ⟨_, rfl⟩
 rw [← hR, Ex.enc_mk]
 refine wordsN ?_; unhygienic intros
 generalize hes : mapE Ex.enc a = es at *
 have hel : es.length = a.length := by rw [← hes, mapE_len]
 refine fn_body (fn := Tryz.f64) (n := 22) (ac := Tryzc64) (rvs := [.t 2]) rfl (by decide) Tryzp64 rfl rfl rfl ?_
 refine goA 60 ?_
 refine on_loopP (ι := List Ex × List Ex × Int × Int) (fun p => ([(3, int p.2.2.2), (4, int p.2.2.1), (1, .ptr 0 0)], [.cells [int o, .isl 8 es, int v, int f, int k, int xk, int xn, str xt]])) (fun p => a = p.1 ++ p.2.1 ∧ p.2.2.1 = p.1.length ∧ p.2.2.2 ≤ 1048576 ∧ 0 ≤ p.2.2.2 ∧ R = Ex.depL p.2.2.2.toNat p.2.1) (fun p => p.2.1.length) ([], a, 0, 0) ⟨rfl, rfl, by simp, by simp, hR⟩ ?_ ?_
 · exact (ent_sub [.to 0] [some 0] ⟨⟨by simp, rfl⟩, trivial⟩ ⟨osrc_cells (b := 0) rfl rfl rfl ⟨.refl _, .cl hcl, .refl _, .refl _, .refl _, .refl _, .refl _, .refl _, trivial⟩, trivial⟩ ⟨.refl _, .refl _, .refl _, trivial⟩)
 rintro ⟨d, r, i, dd⟩ ⟨g1, gi, gn, gp, gt⟩
 dsimp only at g1 gi gn gp gt ⊢
 cases r with
 | nil =>
  have L1 := len_split g1
  try simp only [List.length_cons, List.length_nil] at L1
  have hc : iLt i (lenA es) = false := lt_f e_iLt e_lenA (by omega)
  rw [Ex.depL] at gt
  have ha1 : iAdd .i64 dd 1 = ((R + 1 : Nat) : Int) := by rw [add_w e_iAdd (by omega) (by omega)]; omega
  refine goB hX 0 (by conv => lhs; cbv; try simp only [hc]; cbv; try simp only [hc]; cbv; try simp only [hc]; cbv; try simp only [hc]; cbv) ?_
  refine goA 60 ?_
  refine loopP_exit ?_
  refine goA 60 ?_
  refine fn_ret rfl rfl (.val ?_)
  exact congrArg (Value.int .i64) ha1
 | cons q r =>
  have L1 := len_split g1
  try simp only [List.length_cons, List.length_nil] at L1
  have hc : iLt i (lenA es) = true := lt_t e_iLt e_lenA (by omega)
  have hat := el_at e_atA hes g1 gi
  have hq := hih q (by rw [g1]; simp)
  have hqc := Ex.closed q
  have hqd := hde q
  rw [g1, Ex.cntL_append, Ex.cntL] at hcnt
  obtain ⟨qO, qA, qV, qF, qK, qXk, qXn, qXt, hx⟩ := Ex.form q
  rw [hx] at hq hat hqc
  rw [Ex.depL] at gt
  generalize hqn : (q.dep : Int) = qn at hq
  have hd2 : iMax dd qn = ((max dd.toNat q.dep : Nat) : Int) := by simp only [ee]; split <;> omega
  have hd3 : (iMax dd qn).toNat = max dd.toNat q.dep := by omega
  have hi2 : iAdd .i64 i 1 = ((d ++ [q]).length : Int) := by rw [List.length_append]; exact inc_w e_iAdd gi (by omega)
  refine goB hX 0 (by conv => lhs; cbv; try simp only [hc, hat]; cbv; try simp only [hc, hat]; cbv; try simp only [hc, hat]; cbv; try simp only [hc, hat]; cbv) ?_
  refine goB hX 1 (by conv => lhs; cbv; try simp only [hc, hat]; cbv; try simp only [hc, hat]; cbv; try simp only [hc, hat]; cbv; try simp only [hc, hat]; cbv) ?_
  refine pcA hq ?_
  refine goA 60 ?_
  refine loopP_next (d ++ [q], r, iAdd .i64 i 1, iMax dd qn) ⟨by simp [g1], hi2, by show iMax dd qn ≤ 1048576; omega, by show 0 ≤ iMax dd qn; omega, hd3 ▸ gt⟩ (by simp) (ent_sub [.to 0] [some 0] ⟨⟨by simp, rfl⟩, trivial⟩ ⟨osrc_cells (b := 0) rfl rfl rfl ⟨.refl _, .cl hcl, .refl _, .refl _, .refl _, .refl _, .refl _, .refl _, trivial⟩, trivial⟩ ⟨.refl _, .refl _, .refl _, trivial⟩)
theorem P_ref09_Depth : ∀ p : Pat, p.Sm → PCall EE 30 [p.enc] (int p.dep) := by
 refine Pat.ind ?_
 intro o a t v s n c ih hs
 obtain ⟨co, ca, cv, cf, ck, xk, xn, xt⟩ := c
 have hlen := hs.len
 have hih : ∀ q ∈ a, PCall EE 30 [q.enc] (int q.dep) := fun q hq => ih q hq (hs.arg hq)
 have hcl := Pat.closedI a
 have hce := Ex.closedI ca
 have hcnt : Pat.cntL a ≤ 1048576 := by have hs := hs.1; simp only [Pat.cnt] at hs; omega
 have hde := fun q : Pat => Pat.dep_le q
 simp only [Pat.dep]
 obtain ⟨R, hR⟩ : ∃ R, R = Pat.depL 0 a := ⟨_, rfl⟩
 rw [← hR, Pat.enc_mk]
 refine wordsN ?_; unhygienic intros
 generalize hes : mapE Pat.enc a = es at *
 generalize mapE Ex.enc ca = ec at *
 have hel : es.length = a.length := by rw [← hes, mapE_len]
 refine fn_body (fn := Tryz.f30) (n := 22) (ac := Tryzc30) (rvs := [.t 2]) rfl (by decide) Tryzp30 rfl rfl rfl ?_
 refine goA 60 ?_
 refine on_loopP (ι := List Pat × List Pat × Int × Int) (fun p => ([(3, int p.2.2.2), (4, int p.2.2.1), (1, .ptr 0 0)], [.cells [int o, .isl 14 es, int t, int v, int s, int n, int co, .isl 8 ec, int cv, int cf, int ck, int xk, int xn, str xt]])) (fun p => a = p.1 ++ p.2.1 ∧ p.2.2.1 = p.1.length ∧ p.2.2.2 ≤ 1048576 ∧ 0 ≤ p.2.2.2 ∧ R = Pat.depL p.2.2.2.toNat p.2.1) (fun p => p.2.1.length) ([], a, 0, 0) ⟨rfl, rfl, by simp, by simp, hR⟩ ?_ ?_
 · exact (ent_sub [.to 0] [some 0] ⟨⟨by simp, rfl⟩, trivial⟩ ⟨osrc_cells (b := 0) rfl rfl rfl ⟨.refl _, .cl hcl, .refl _, .refl _, .refl _, .refl _, .refl _, .cl hce, .refl _, .refl _, .refl _, .refl _, .refl _, .refl _, trivial⟩, trivial⟩ ⟨.refl _, .refl _, .refl _, trivial⟩)
 rintro ⟨d, r, i, dd⟩ ⟨g1, gi, gn, gp, gt⟩
 dsimp only at g1 gi gn gp gt ⊢
 cases r with
 | nil =>
  have L1 := len_split g1
  try simp only [List.length_cons, List.length_nil] at L1
  have hc : iLt i (lenA es) = false := lt_f e_iLt e_lenA (by omega)
  rw [Pat.depL] at gt
  have ha1 : iAdd .i64 dd 1 = ((R + 1 : Nat) : Int) := by rw [add_w e_iAdd (by omega) (by omega)]; omega
  refine goB hX 0 (by conv => lhs; cbv; try simp only [hc]; cbv; try simp only [hc]; cbv; try simp only [hc]; cbv; try simp only [hc]; cbv) ?_
  refine goA 60 ?_
  refine loopP_exit ?_
  refine goA 60 ?_
  refine fn_ret rfl rfl (.val ?_)
  exact congrArg (Value.int .i64) ha1
 | cons q r =>
  have L1 := len_split g1
  try simp only [List.length_cons, List.length_nil] at L1
  have hc : iLt i (lenA es) = true := lt_t e_iLt e_lenA (by omega)
  have hat := el_at e_atA hes g1 gi
  have hq := hih q (by rw [g1]; simp)
  have hqc := Pat.closed q
  have hqd := hde q
  rw [g1, Pat.cntL_append, Pat.cntL] at hcnt
  obtain ⟨qO, qA, qT, qV, qS, qN, qCo, qCa, qCv, qCf, qCk, qXk, qXn, qXt, hx⟩ := Pat.form q
  rw [hx] at hq hat hqc
  rw [Pat.depL] at gt
  generalize hqn : (q.dep : Int) = qn at hq
  have hd2 : iMax dd qn = ((max dd.toNat q.dep : Nat) : Int) := by simp only [ee]; split <;> omega
  have hd3 : (iMax dd qn).toNat = max dd.toNat q.dep := by omega
  have hi2 : iAdd .i64 i 1 = ((d ++ [q]).length : Int) := by rw [List.length_append]; exact inc_w e_iAdd gi (by omega)
  refine goB hX 0 (by conv => lhs; cbv; try simp only [hc, hat]; cbv; try simp only [hc, hat]; cbv; try simp only [hc, hat]; cbv; try simp only [hc, hat]; cbv) ?_
  refine goB hX 1 (by conv => lhs; cbv; try simp only [hc, hat]; cbv; try simp only [hc, hat]; cbv; try simp only [hc, hat]; cbv; try simp only [hc, hat]; cbv) ?_
  refine pcA hq ?_
  refine goA 60 ?_
  refine loopP_next (d ++ [q], r, iAdd .i64 i 1, iMax dd qn) ⟨by simp [g1], hi2, by show iMax dd qn ≤ 1048576; omega, by show 0 ≤ iMax dd qn; omega, hd3 ▸ gt⟩ (by simp) (ent_sub [.to 0] [some 0] ⟨⟨by simp, rfl⟩, trivial⟩ ⟨osrc_cells (b := 0) rfl rfl rfl ⟨.refl _, .cl hcl, .refl _, .refl _, .refl _, .refl _, .refl _, .cl hce, .refl _, .refl _, .refl _, .refl _, .refl _, .refl _, trivial⟩, trivial⟩ ⟨.refl _, .refl _, .refl _, trivial⟩)
end Go.Am
end
section
set_option maxHeartbeats 16000000
set_option linter.unusedVariables false
set_option linter.unusedSimpArgs false
set_option maxRecDepth 20000
namespace Go.Am
open Go.Proofs
def suitsR (k : Int) (v : Vl) : Bool := decide (v.kind = 0 ∨ k = 0 ∨ k = 4 ∨ k = 5)
theorem P_ref07_Suits (k : Int) (v : Vl) : PCall EE 118 [int k, v.enc] (bool (suitsR k v)) := by
 obtain ⟨R, hR⟩ : ∃ R, R = suitsR k v := ⟨_, rfl⟩
 rw [← hR]
 unfold suitsR at hR
 obtain ⟨xk, xn, xt⟩ := v
 dsimp only at hR
 show PCall EE _ [int k, .agg [int xk, int xn, str xt]] _
 refine wordsN ?_; unhygienic intros
 refine fn_body (fn := Tryz.f118) (n := 20) (ac := Tryzc118) (rvs := [.t 4]) rfl (by decide) Tryzp118 rfl rfl rfl ?_
 refine goA 60 ?_
 refine fn_ret rfl rfl (.val ?_)
 exact congrArg Value.bool (by rw [hR, Bool.eq_iff_iff]; simp only [ee]; simp [or_assoc])
theorem P_ref01_Check (v : Vl) : PCall EE 117 [v.enc] (int v.chk) := by
 obtain ⟨R, hR⟩ : ∃ R, R = v.chk := ⟨_, rfl⟩
 rw [← hR]
 have h0 : v.text = ⟨#[]⟩ ↔ v.text.toList = [] := by
  constructor
  · intro h; rw [h]; simp
  · intro h; exact bs_inj (by rw [h]; simp)
 have hz : v.text.toList = [] → (v.text.size : Int) = 0 := fun h => by rw [h0.2 h]; rfl
 unfold Vl.chk Vl.sizeE at hR
 obtain ⟨xk, xn, xt⟩ := v
 dsimp only at hR h0 hz
 simp only [ne_eq, h0] at hR
 show PCall EE _ [.agg [int xk, int xn, str xt]] _
 refine wordsN ?_; unhygienic intros
 have hsn : ∀ s : ByteArray, (s.toList == (ByteArray.mk #[]).toList) = decide (s.toList = []) := by
  intro s
  have hn : (ByteArray.mk #[]).toList = [] := by simp
  rw [hn]
  cases s.toList <;> rfl
 refine fn_body (fn := Tryz.f117) (n := 47) (ac := Tryzc117) (rvs := [.t 2]) rfl (by decide) Tryzp117 rfl rfl rfl ?_
 refine goA 0 ?_
 refine on_cond rfl (fun c1 => ?_) (fun c1 => ?_)
 ·
  simp [ee] at c1
  refine goA 60 ?_
  refine fn_ret rfl rfl (.val ?_)
  exact congrArg (Value.int .i64) (by rw [hR]; simp only [ee, hsn] at *; clear ee hX; grind)
 ·
  simp [ee] at c1
  refine goA 0 ?_
  refine on_cond rfl (fun c2 => ?_) (fun c2 => ?_)
  ·
   simp [ee] at c2
   refine goA 0 ?_
   refine on_cond rfl (fun c3 => ?_) (fun c3 => ?_)
   ·
    simp [ee] at c3
    refine goA 60 ?_
    refine fn_ret rfl rfl (.val ?_)
    exact congrArg (Value.int .i64) (by rw [hR]; simp only [ee, hsn] at *; clear ee hX; grind)
   ·
    simp [ee] at c3
    refine goA 0 ?_
    refine on_cond rfl (fun c4 => ?_) (fun c4 => ?_)
    ·
     simp [ee] at c4
     refine goA 60 ?_
     refine fn_ret rfl rfl (.val ?_)
     exact congrArg (Value.int .i64) (by rw [hR]; simp only [ee, hsn] at *; clear ee hX; grind)
    ·
     simp [ee] at c4
     refine goA 60 ?_
     refine fn_ret rfl rfl (.val ?_)
     exact congrArg (Value.int .i64) (by rw [hR]; simp only [ee, hsn] at *; clear ee hX; grind)
  ·
   simp [ee] at c2
   refine goA 0 ?_
   refine on_cond rfl (fun c5 => ?_) (fun c5 => ?_)
   ·
    simp [ee] at c5
    refine goA 60 ?_
    refine fn_ret rfl rfl (.val ?_)
    exact congrArg (Value.int .i64) (by rw [hR]; simp only [ee, hsn] at *; clear ee hX; grind)
   ·
    simp [ee] at c5
    refine goA 0 ?_
    refine nsB hX (by conv => lhs; cbv) ?_
    refine goA 0 ?_
    refine on_cond rfl (fun c6 => ?_) (fun c6 => ?_)
    ·
     simp [ee] at c6
     refine goA 60 ?_
     refine fn_ret rfl rfl (.val ?_)
     exact congrArg (Value.int .i64) (by rw [hR]; simp only [ee, hsn] at *; clear ee hX; grind)
    ·
     simp [ee] at c6
     refine goA 60 ?_
     refine fn_ret rfl rfl (.val ?_)
     exact congrArg (Value.int .i64) (by rw [hR]; simp only [ee, hsn] at *; clear ee hX; grind)
theorem P_ref08_uses (o : Int) : PCall EE 104 [int o] (.tup [bool (usesV o), bool (usesF o)]) := by
 obtain ⟨R, hR⟩ : ∃ R, R = usesV o := ⟨_, rfl⟩
 obtain ⟨R2, hR2⟩ : ∃ R, R = usesF o := ⟨_, rfl⟩
 rw [← hR, ← hR2]
 unfold usesV at hR
 unfold usesF at hR2
 refine wordsN ?_; unhygienic intros
 refine fn_body (fn := Tryz.f104) (n := 21) (ac := Tryzc104) (rvs := [.t 2, .t 3]) rfl (by decide) Tryzp104 rfl rfl rfl ?_
 refine goA 60 ?_
 refine fn_ret rfl rfl ?_
 exact Fz.none (.tup' ⟨.of (congrArg bool (by rw [hR, Bool.eq_iff_iff]; simp only [ee]; simp; omega)), .of (congrArg bool (by rw [hR2, Bool.eq_iff_iff]; simp only [ee]; simp)), trivial⟩)
def arityR (o : Int) : Int := if o < 0 ∨ 12 < o then -1 else if o < 5 then 0 else if o = 12 then 1 else 2
theorem P_ref08_arity (o : Int) : PCall EE 116 [int o] (int (arityR o)) := by
 obtain ⟨R, hR⟩ : ∃ R, R = arityR o := ⟨_, rfl⟩
 rw [← hR]
 unfold arityR at hR
 refine wordsN ?_; unhygienic intros
 refine fn_body (fn := Tryz.f116) (n := 20) (ac := Tryzc116) (rvs := [.t 2]) rfl (by decide) Tryzp116 rfl rfl rfl ?_
 refine goA 0 ?_
 refine on_cond rfl (fun c1 => ?_) (fun c1 => ?_)
 ·
  simp [ee] at c1
  refine goA 0 ?_
  refine on_cond rfl (fun c2 => ?_) (fun c2 => ?_)
  ·
   simp [ee] at c2
   refine goA 60 ?_
   refine fn_ret rfl rfl (.val ?_)
   exact congrArg (Value.int .i64) (by rw [hR]; (repeat' split) <;> first | rfl | omega)
  ·
   simp [ee] at c2
   refine goA 0 ?_
   refine on_cond rfl (fun c3 => ?_) (fun c3 => ?_)
   ·
    simp [ee] at c3
    refine goA 60 ?_
    refine fn_ret rfl rfl (.val ?_)
    exact congrArg (Value.int .i64) (by rw [hR]; (repeat' split) <;> first | rfl | omega)
   ·
    simp [ee] at c3
    refine goA 0 ?_
    refine on_cond rfl (fun c4 => ?_) (fun c4 => ?_)
    ·
     simp [ee] at c4
     refine goA 0 ?_
     refine on_cond rfl (fun c5 => ?_) (fun c5 => ?_)
     ·
      simp [ee] at c5
      refine goA 60 ?_
      refine fn_ret rfl rfl (.val ?_)
      exact congrArg (Value.int .i64) (by rw [hR]; (repeat' split) <;> first | rfl | omega)
     ·
      simp [ee] at c5
      refine goA 60 ?_
      refine fn_ret rfl rfl (.val ?_)
      exact congrArg (Value.int .i64) (by rw [hR]; (repeat' split) <;> first | rfl | omega)
    ·
     simp [ee] at c4
     refine goA 0 ?_
     refine on_cond rfl (fun c6 => ?_) (fun c6 => ?_)
     ·
      simp [ee] at c6
      refine goA 0 ?_
      refine on_cond rfl (fun c7 => ?_) (fun c7 => ?_)
      ·
       simp [ee] at c7
       refine goA 60 ?_
       refine fn_ret rfl rfl (.val ?_)
       exact congrArg (Value.int .i64) (by rw [hR]; (repeat' split) <;> first | rfl | omega)
      ·
       simp [ee] at c7
       refine goA 60 ?_
       refine fn_ret rfl rfl (.val ?_)
       exact congrArg (Value.int .i64) (by rw [hR]; (repeat' split) <;> first | rfl | omega)
     ·
      simp [ee] at c6
      refine goA 0 ?_
      refine on_cond rfl (fun c8 => ?_) (fun c8 => ?_)
      ·
       simp [ee] at c8
       refine goA 0 ?_
       refine on_cond rfl (fun c9 => ?_) (fun c9 => ?_)
       ·
        simp [ee] at c9
        refine goA 60 ?_
        refine fn_ret rfl rfl (.val ?_)
        exact congrArg (Value.int .i64) (by rw [hR]; (repeat' split) <;> first | rfl | omega)
       ·
        simp [ee] at c9
        refine goA 60 ?_
        refine fn_ret rfl rfl (.val ?_)
        exact congrArg (Value.int .i64) (by rw [hR]; (repeat' split) <;> first | rfl | omega)
      ·
       simp [ee] at c8
       refine goA 0 ?_
       refine on_cond rfl (fun c10 => ?_) (fun c10 => ?_)
       ·
        simp [ee] at c10
        refine goA 0 ?_
        refine on_cond rfl (fun c11 => ?_) (fun c11 => ?_)
        ·
         simp [ee] at c11
         refine goA 60 ?_
         refine fn_ret rfl rfl (.val ?_)
         exact congrArg (Value.int .i64) (by rw [hR]; (repeat' split) <;> first | rfl | omega)
        ·
         simp [ee] at c11
         refine goA 60 ?_
         refine fn_ret rfl rfl (.val ?_)
         exact congrArg (Value.int .i64) (by rw [hR]; (repeat' split) <;> first | rfl | omega)
       ·
        simp [ee] at c10
        refine goA 0 ?_
        refine on_cond rfl (fun c12 => ?_) (fun c12 => ?_)
        ·
         simp [ee] at c12
         refine goA 0 ?_
         refine on_cond rfl (fun c13 => ?_) (fun c13 => ?_)
         ·
          simp [ee] at c13
          refine goA 60 ?_
          refine fn_ret rfl rfl (.val ?_)
          exact congrArg (Value.int .i64) (by rw [hR]; (repeat' split) <;> first | rfl | omega)
         ·
          simp [ee] at c13
          refine goA 60 ?_
          refine fn_ret rfl rfl (.val ?_)
          exact congrArg (Value.int .i64) (by rw [hR]; (repeat' split) <;> first | rfl | omega)
        ·
         simp [ee] at c12
         refine goA 0 ?_
         refine on_cond rfl (fun c14 => ?_) (fun c14 => ?_)
         ·
          simp [ee] at c14
          refine goA 0 ?_
          refine on_cond rfl (fun c15 => ?_) (fun c15 => ?_)
          ·
           simp [ee] at c15
           refine goA 60 ?_
           refine fn_ret rfl rfl (.val ?_)
           exact congrArg (Value.int .i64) (by rw [hR]; (repeat' split) <;> first | rfl | omega)
          ·
           simp [ee] at c15
           refine goA 60 ?_
           refine fn_ret rfl rfl (.val ?_)
           exact congrArg (Value.int .i64) (by rw [hR]; (repeat' split) <;> first | rfl | omega)
         ·
          simp [ee] at c14
          refine goA 0 ?_
          refine on_cond rfl (fun c16 => ?_) (fun c16 => ?_)
          ·
           simp [ee] at c16
           refine goA 60 ?_
           refine fn_ret rfl rfl (.val ?_)
           exact congrArg (Value.int .i64) (by rw [hR]; (repeat' split) <;> first | rfl | omega)
          ·
           simp [ee] at c16
           refine goA 60 ?_
           refine fn_ret rfl rfl (.val ?_)
           exact congrArg (Value.int .i64) (by rw [hR]; (repeat' split) <;> first | rfl | omega)
 ·
  simp [ee] at c1
  refine goA 0 ?_
  refine on_cond rfl (fun c17 => ?_) (fun c17 => ?_)
  ·
   simp [ee] at c17
   refine goA 0 ?_
   refine on_cond rfl (fun c18 => ?_) (fun c18 => ?_)
   ·
    simp [ee] at c18
    refine goA 60 ?_
    refine fn_ret rfl rfl (.val ?_)
    exact congrArg (Value.int .i64) (by rw [hR]; (repeat' split) <;> first | rfl | omega)
   ·
    simp [ee] at c18
    refine goA 0 ?_
    refine on_cond rfl (fun c19 => ?_) (fun c19 => ?_)
    ·
     simp [ee] at c19
     refine goA 60 ?_
     refine fn_ret rfl rfl (.val ?_)
     exact congrArg (Value.int .i64) (by rw [hR]; (repeat' split) <;> first | rfl | omega)
    ·
     simp [ee] at c19
     refine goA 0 ?_
     refine on_cond rfl (fun c20 => ?_) (fun c20 => ?_)
     ·
      simp [ee] at c20
      refine goA 0 ?_
      refine on_cond rfl (fun c21 => ?_) (fun c21 => ?_)
      ·
       simp [ee] at c21
       refine goA 60 ?_
       refine fn_ret rfl rfl (.val ?_)
       exact congrArg (Value.int .i64) (by rw [hR]; (repeat' split) <;> first | rfl | omega)
      ·
       simp [ee] at c21
       refine goA 60 ?_
       refine fn_ret rfl rfl (.val ?_)
       exact congrArg (Value.int .i64) (by rw [hR]; (repeat' split) <;> first | rfl | omega)
     ·
      simp [ee] at c20
      refine goA 0 ?_
      refine on_cond rfl (fun c22 => ?_) (fun c22 => ?_)
      ·
       simp [ee] at c22
       refine goA 0 ?_
       refine on_cond rfl (fun c23 => ?_) (fun c23 => ?_)
       ·
        simp [ee] at c23
        refine goA 60 ?_
        refine fn_ret rfl rfl (.val ?_)
        exact congrArg (Value.int .i64) (by rw [hR]; (repeat' split) <;> first | rfl | omega)
       ·
        simp [ee] at c23
        refine goA 60 ?_
        refine fn_ret rfl rfl (.val ?_)
        exact congrArg (Value.int .i64) (by rw [hR]; (repeat' split) <;> first | rfl | omega)
      ·
       simp [ee] at c22
       refine goA 0 ?_
       refine on_cond rfl (fun c24 => ?_) (fun c24 => ?_)
       ·
        simp [ee] at c24
        refine goA 0 ?_
        refine on_cond rfl (fun c25 => ?_) (fun c25 => ?_)
        ·
         simp [ee] at c25
         refine goA 60 ?_
         refine fn_ret rfl rfl (.val ?_)
         exact congrArg (Value.int .i64) (by rw [hR]; (repeat' split) <;> first | rfl | omega)
        ·
         simp [ee] at c25
         refine goA 60 ?_
         refine fn_ret rfl rfl (.val ?_)
         exact congrArg (Value.int .i64) (by rw [hR]; (repeat' split) <;> first | rfl | omega)
       ·
        simp [ee] at c24
        refine goA 0 ?_
        refine on_cond rfl (fun c26 => ?_) (fun c26 => ?_)
        ·
         simp [ee] at c26
         refine goA 0 ?_
         refine on_cond rfl (fun c27 => ?_) (fun c27 => ?_)
         ·
          simp [ee] at c27
          refine goA 60 ?_
          refine fn_ret rfl rfl (.val ?_)
          exact congrArg (Value.int .i64) (by rw [hR]; (repeat' split) <;> first | rfl | omega)
         ·
          simp [ee] at c27
          refine goA 60 ?_
          refine fn_ret rfl rfl (.val ?_)
          exact congrArg (Value.int .i64) (by rw [hR]; (repeat' split) <;> first | rfl | omega)
        ·
         simp [ee] at c26
         refine goA 0 ?_
         refine on_cond rfl (fun c28 => ?_) (fun c28 => ?_)
         ·
          simp [ee] at c28
          refine goA 0 ?_
          refine on_cond rfl (fun c29 => ?_) (fun c29 => ?_)
          ·
           simp [ee] at c29
           refine goA 60 ?_
           refine fn_ret rfl rfl (.val ?_)
           exact congrArg (Value.int .i64) (by rw [hR]; (repeat' split) <;> first | rfl | omega)
          ·
           simp [ee] at c29
           refine goA 60 ?_
           refine fn_ret rfl rfl (.val ?_)
           exact congrArg (Value.int .i64) (by rw [hR]; (repeat' split) <;> first | rfl | omega)
         ·
          simp [ee] at c28
          refine goA 0 ?_
          refine on_cond rfl (fun c30 => ?_) (fun c30 => ?_)
          ·
           simp [ee] at c30
           refine goA 0 ?_
           refine on_cond rfl (fun c31 => ?_) (fun c31 => ?_)
           ·
            simp [ee] at c31
            refine goA 60 ?_
            refine fn_ret rfl rfl (.val ?_)
            exact congrArg (Value.int .i64) (by rw [hR]; (repeat' split) <;> first | rfl | omega)
           ·
            simp [ee] at c31
            refine goA 60 ?_
            refine fn_ret rfl rfl (.val ?_)
            exact congrArg (Value.int .i64) (by rw [hR]; (repeat' split) <;> first | rfl | omega)
          ·
           simp [ee] at c30
           refine goA 0 ?_
           refine on_cond rfl (fun c32 => ?_) (fun c32 => ?_)
           ·
            simp [ee] at c32
            refine goA 60 ?_
            refine fn_ret rfl rfl (.val ?_)
            exact congrArg (Value.int .i64) (by rw [hR]; (repeat' split) <;> first | rfl | omega)
           ·
            simp [ee] at c32
            refine goA 60 ?_
            refine fn_ret rfl rfl (.val ?_)
            exact congrArg (Value.int .i64) (by rw [hR]; (repeat' split) <;> first | rfl | omega)
  ·
   simp [ee] at c17
   refine goA 0 ?_
   refine on_cond rfl (fun c33 => ?_) (fun c33 => ?_)
   ·
    simp [ee] at c33
    refine goA 0 ?_
    refine on_cond rfl (fun c34 => ?_) (fun c34 => ?_)
    ·
     simp [ee] at c34
     refine goA 60 ?_
     refine fn_ret rfl rfl (.val ?_)
     exact congrArg (Value.int .i64) (by rw [hR]; (repeat' split) <;> first | rfl | omega)
    ·
     simp [ee] at c34
     refine goA 0 ?_
     refine on_cond rfl (fun c35 => ?_) (fun c35 => ?_)
     ·
      simp [ee] at c35
      refine goA 60 ?_
      refine fn_ret rfl rfl (.val ?_)
      exact congrArg (Value.int .i64) (by rw [hR]; (repeat' split) <;> first | rfl | omega)
     ·
      simp [ee] at c35
      refine goA 0 ?_
      refine on_cond rfl (fun c36 => ?_) (fun c36 => ?_)
      ·
       simp [ee] at c36
       refine goA 0 ?_
       refine on_cond rfl (fun c37 => ?_) (fun c37 => ?_)
       ·
        simp [ee] at c37
        refine goA 60 ?_
        refine fn_ret rfl rfl (.val ?_)
        exact congrArg (Value.int .i64) (by rw [hR]; (repeat' split) <;> first | rfl | omega)
       ·
        simp [ee] at c37
        refine goA 60 ?_
        refine fn_ret rfl rfl (.val ?_)
        exact congrArg (Value.int .i64) (by rw [hR]; (repeat' split) <;> first | rfl | omega)
      ·
       simp [ee] at c36
       refine goA 0 ?_
       refine on_cond rfl (fun c38 => ?_) (fun c38 => ?_)
       ·
        simp [ee] at c38
        refine goA 0 ?_
        refine on_cond rfl (fun c39 => ?_) (fun c39 => ?_)
        ·
         simp [ee] at c39
         refine goA 60 ?_
         refine fn_ret rfl rfl (.val ?_)
         exact congrArg (Value.int .i64) (by rw [hR]; (repeat' split) <;> first | rfl | omega)
        ·
         simp [ee] at c39
         refine goA 60 ?_
         refine fn_ret rfl rfl (.val ?_)
         exact congrArg (Value.int .i64) (by rw [hR]; (repeat' split) <;> first | rfl | omega)
       ·
        simp [ee] at c38
        refine goA 0 ?_
        refine on_cond rfl (fun c40 => ?_) (fun c40 => ?_)
        ·
         simp [ee] at c40
         refine goA 0 ?_
         refine on_cond rfl (fun c41 => ?_) (fun c41 => ?_)
         ·
          simp [ee] at c41
          refine goA 60 ?_
          refine fn_ret rfl rfl (.val ?_)
          exact congrArg (Value.int .i64) (by rw [hR]; (repeat' split) <;> first | rfl | omega)
         ·
          simp [ee] at c41
          refine goA 60 ?_
          refine fn_ret rfl rfl (.val ?_)
          exact congrArg (Value.int .i64) (by rw [hR]; (repeat' split) <;> first | rfl | omega)
        ·
         simp [ee] at c40
         refine goA 0 ?_
         refine on_cond rfl (fun c42 => ?_) (fun c42 => ?_)
         ·
          simp [ee] at c42
          refine goA 0 ?_
          refine on_cond rfl (fun c43 => ?_) (fun c43 => ?_)
          ·
           simp [ee] at c43
           refine goA 60 ?_
           refine fn_ret rfl rfl (.val ?_)
           exact congrArg (Value.int .i64) (by rw [hR]; (repeat' split) <;> first | rfl | omega)
          ·
           simp [ee] at c43
           refine goA 60 ?_
           refine fn_ret rfl rfl (.val ?_)
           exact congrArg (Value.int .i64) (by rw [hR]; (repeat' split) <;> first | rfl | omega)
         ·
          simp [ee] at c42
          refine goA 0 ?_
          refine on_cond rfl (fun c44 => ?_) (fun c44 => ?_)
          ·
           simp [ee] at c44
           refine goA 0 ?_
           refine on_cond rfl (fun c45 => ?_) (fun c45 => ?_)
           ·
            simp [ee] at c45
            refine goA 60 ?_
            refine fn_ret rfl rfl (.val ?_)
            exact congrArg (Value.int .i64) (by rw [hR]; (repeat' split) <;> first | rfl | omega)
           ·
            simp [ee] at c45
            refine goA 60 ?_
            refine fn_ret rfl rfl (.val ?_)
            exact congrArg (Value.int .i64) (by rw [hR]; (repeat' split) <;> first | rfl | omega)
          ·
           simp [ee] at c44
           refine goA 0 ?_
           refine on_cond rfl (fun c46 => ?_) (fun c46 => ?_)
           ·
            simp [ee] at c46
            refine goA 0 ?_
            refine on_cond rfl (fun c47 => ?_) (fun c47 => ?_)
            ·
             simp [ee] at c47
             refine goA 60 ?_
             refine fn_ret rfl rfl (.val ?_)
             exact congrArg (Value.int .i64) (by rw [hR]; (repeat' split) <;> first | rfl | omega)
            ·
             simp [ee] at c47
             refine goA 60 ?_
             refine fn_ret rfl rfl (.val ?_)
             exact congrArg (Value.int .i64) (by rw [hR]; (repeat' split) <;> first | rfl | omega)
           ·
            simp [ee] at c46
            refine goA 0 ?_
            refine on_cond rfl (fun c48 => ?_) (fun c48 => ?_)
            ·
             simp [ee] at c48
             refine goA 60 ?_
             refine fn_ret rfl rfl (.val ?_)
             exact congrArg (Value.int .i64) (by rw [hR]; (repeat' split) <;> first | rfl | omega)
            ·
             simp [ee] at c48
             refine goA 60 ?_
             refine fn_ret rfl rfl (.val ?_)
             exact congrArg (Value.int .i64) (by rw [hR]; (repeat' split) <;> first | rfl | omega)
   ·
    simp [ee] at c33
    refine goA 0 ?_
    refine on_cond rfl (fun c49 => ?_) (fun c49 => ?_)
    ·
     simp [ee] at c49
     refine goA 0 ?_
     refine on_cond rfl (fun c50 => ?_) (fun c50 => ?_)
     ·
      simp [ee] at c50
      refine goA 60 ?_
      refine fn_ret rfl rfl (.val ?_)
      exact congrArg (Value.int .i64) (by rw [hR]; (repeat' split) <;> first | rfl | omega)
     ·
      simp [ee] at c50
      refine goA 0 ?_
      refine on_cond rfl (fun c51 => ?_) (fun c51 => ?_)
      ·
       simp [ee] at c51
       refine goA 60 ?_
       refine fn_ret rfl rfl (.val ?_)
       exact congrArg (Value.int .i64) (by rw [hR]; (repeat' split) <;> first | rfl | omega)
      ·
       simp [ee] at c51
       refine goA 0 ?_
       refine on_cond rfl (fun c52 => ?_) (fun c52 => ?_)
       ·
        simp [ee] at c52
        refine goA 0 ?_
        refine on_cond rfl (fun c53 => ?_) (fun c53 => ?_)
        ·
         simp [ee] at c53
         refine goA 60 ?_
         refine fn_ret rfl rfl (.val ?_)
         exact congrArg (Value.int .i64) (by rw [hR]; (repeat' split) <;> first | rfl | omega)
        ·
         simp [ee] at c53
         refine goA 60 ?_
         refine fn_ret rfl rfl (.val ?_)
         exact congrArg (Value.int .i64) (by rw [hR]; (repeat' split) <;> first | rfl | omega)
       ·
        simp [ee] at c52
        refine goA 0 ?_
        refine on_cond rfl (fun c54 => ?_) (fun c54 => ?_)
        ·
         simp [ee] at c54
         refine goA 0 ?_
         refine on_cond rfl (fun c55 => ?_) (fun c55 => ?_)
         ·
          simp [ee] at c55
          refine goA 60 ?_
          refine fn_ret rfl rfl (.val ?_)
          exact congrArg (Value.int .i64) (by rw [hR]; (repeat' split) <;> first | rfl | omega)
         ·
          simp [ee] at c55
          refine goA 60 ?_
          refine fn_ret rfl rfl (.val ?_)
          exact congrArg (Value.int .i64) (by rw [hR]; (repeat' split) <;> first | rfl | omega)
        ·
         simp [ee] at c54
         refine goA 0 ?_
         refine on_cond rfl (fun c56 => ?_) (fun c56 => ?_)
         ·
          simp [ee] at c56
          refine goA 0 ?_
          refine on_cond rfl (fun c57 => ?_) (fun c57 => ?_)
          ·
           simp [ee] at c57
           refine goA 60 ?_
           refine fn_ret rfl rfl (.val ?_)
           exact congrArg (Value.int .i64) (by rw [hR]; (repeat' split) <;> first | rfl | omega)
          ·
           simp [ee] at c57
           refine goA 60 ?_
           refine fn_ret rfl rfl (.val ?_)
           exact congrArg (Value.int .i64) (by rw [hR]; (repeat' split) <;> first | rfl | omega)
         ·
          simp [ee] at c56
          refine goA 0 ?_
          refine on_cond rfl (fun c58 => ?_) (fun c58 => ?_)
          ·
           simp [ee] at c58
           refine goA 0 ?_
           refine on_cond rfl (fun c59 => ?_) (fun c59 => ?_)
           ·
            simp [ee] at c59
            refine goA 60 ?_
            refine fn_ret rfl rfl (.val ?_)
            exact congrArg (Value.int .i64) (by rw [hR]; (repeat' split) <;> first | rfl | omega)
           ·
            simp [ee] at c59
            refine goA 60 ?_
            refine fn_ret rfl rfl (.val ?_)
            exact congrArg (Value.int .i64) (by rw [hR]; (repeat' split) <;> first | rfl | omega)
          ·
           simp [ee] at c58
           refine goA 0 ?_
           refine on_cond rfl (fun c60 => ?_) (fun c60 => ?_)
           ·
            simp [ee] at c60
            refine goA 0 ?_
            refine on_cond rfl (fun c61 => ?_) (fun c61 => ?_)
            ·
             simp [ee] at c61
             refine goA 60 ?_
             refine fn_ret rfl rfl (.val ?_)
             exact congrArg (Value.int .i64) (by rw [hR]; (repeat' split) <;> first | rfl | omega)
            ·
             simp [ee] at c61
             refine goA 60 ?_
             refine fn_ret rfl rfl (.val ?_)
             exact congrArg (Value.int .i64) (by rw [hR]; (repeat' split) <;> first | rfl | omega)
           ·
            simp [ee] at c60
            refine goA 0 ?_
            refine on_cond rfl (fun c62 => ?_) (fun c62 => ?_)
            ·
             simp [ee] at c62
             refine goA 0 ?_
             refine on_cond rfl (fun c63 => ?_) (fun c63 => ?_)
             ·
              simp [ee] at c63
              refine goA 60 ?_
              refine fn_ret rfl rfl (.val ?_)
              exact congrArg (Value.int .i64) (by rw [hR]; (repeat' split) <;> first | rfl | omega)
             ·
              simp [ee] at c63
              refine goA 60 ?_
              refine fn_ret rfl rfl (.val ?_)
              exact congrArg (Value.int .i64) (by rw [hR]; (repeat' split) <;> first | rfl | omega)
            ·
             simp [ee] at c62
             refine goA 0 ?_
             refine on_cond rfl (fun c64 => ?_) (fun c64 => ?_)
             ·
              simp [ee] at c64
              refine goA 60 ?_
              refine fn_ret rfl rfl (.val ?_)
              exact congrArg (Value.int .i64) (by rw [hR]; (repeat' split) <;> first | rfl | omega)
             ·
              simp [ee] at c64
              refine goA 60 ?_
              refine fn_ret rfl rfl (.val ?_)
              exact congrArg (Value.int .i64) (by rw [hR]; (repeat' split) <;> first | rfl | omega)
    ·
     simp [ee] at c49
     refine goA 0 ?_
     refine on_cond rfl (fun c65 => ?_) (fun c65 => ?_)
     ·
      simp [ee] at c65
      refine goA 60 ?_
      refine fn_ret rfl rfl (.val ?_)
      exact congrArg (Value.int .i64) (by rw [hR]; (repeat' split) <;> first | rfl | omega)
     ·
      simp [ee] at c65
      refine goA 0 ?_
      refine on_cond rfl (fun c66 => ?_) (fun c66 => ?_)
      ·
       simp [ee] at c66
       refine goA 60 ?_
       refine fn_ret rfl rfl (.val ?_)
       exact congrArg (Value.int .i64) (by rw [hR]; (repeat' split) <;> first | rfl | omega)
      ·
       simp [ee] at c66
       refine goA 0 ?_
       refine on_cond rfl (fun c67 => ?_) (fun c67 => ?_)
       ·
        simp [ee] at c67
        refine goA 0 ?_
        refine on_cond rfl (fun c68 => ?_) (fun c68 => ?_)
        ·
         simp [ee] at c68
         refine goA 60 ?_
         refine fn_ret rfl rfl (.val ?_)
         exact congrArg (Value.int .i64) (by rw [hR]; (repeat' split) <;> first | rfl | omega)
        ·
         simp [ee] at c68
         refine goA 60 ?_
         refine fn_ret rfl rfl (.val ?_)
         exact congrArg (Value.int .i64) (by rw [hR]; (repeat' split) <;> first | rfl | omega)
       ·
        simp [ee] at c67
        refine goA 0 ?_
        refine on_cond rfl (fun c69 => ?_) (fun c69 => ?_)
        ·
         simp [ee] at c69
         refine goA 0 ?_
         refine on_cond rfl (fun c70 => ?_) (fun c70 => ?_)
         ·
          simp [ee] at c70
          refine goA 60 ?_
          refine fn_ret rfl rfl (.val ?_)
          exact congrArg (Value.int .i64) (by rw [hR]; (repeat' split) <;> first | rfl | omega)
         ·
          simp [ee] at c70
          refine goA 60 ?_
          refine fn_ret rfl rfl (.val ?_)
          exact congrArg (Value.int .i64) (by rw [hR]; (repeat' split) <;> first | rfl | omega)
        ·
         simp [ee] at c69
         refine goA 0 ?_
         refine on_cond rfl (fun c71 => ?_) (fun c71 => ?_)
         ·
          simp [ee] at c71
          refine goA 0 ?_
          refine on_cond rfl (fun c72 => ?_) (fun c72 => ?_)
          ·
           simp [ee] at c72
           refine goA 60 ?_
           refine fn_ret rfl rfl (.val ?_)
           exact congrArg (Value.int .i64) (by rw [hR]; (repeat' split) <;> first | rfl | omega)
          ·
           simp [ee] at c72
           refine goA 60 ?_
           refine fn_ret rfl rfl (.val ?_)
           exact congrArg (Value.int .i64) (by rw [hR]; (repeat' split) <;> first | rfl | omega)
         ·
          simp [ee] at c71
          refine goA 0 ?_
          refine on_cond rfl (fun c73 => ?_) (fun c73 => ?_)
          ·
           simp [ee] at c73
           refine goA 0 ?_
           refine on_cond rfl (fun c74 => ?_) (fun c74 => ?_)
           ·
            simp [ee] at c74
            refine goA 60 ?_
            refine fn_ret rfl rfl (.val ?_)
            exact congrArg (Value.int .i64) (by rw [hR]; (repeat' split) <;> first | rfl | omega)
           ·
            simp [ee] at c74
            refine goA 60 ?_
            refine fn_ret rfl rfl (.val ?_)
            exact congrArg (Value.int .i64) (by rw [hR]; (repeat' split) <;> first | rfl | omega)
          ·
           simp [ee] at c73
           refine goA 0 ?_
           refine on_cond rfl (fun c75 => ?_) (fun c75 => ?_)
           ·
            simp [ee] at c75
            refine goA 0 ?_
            refine on_cond rfl (fun c76 => ?_) (fun c76 => ?_)
            ·
             simp [ee] at c76
             refine goA 60 ?_
             refine fn_ret rfl rfl (.val ?_)
             exact congrArg (Value.int .i64) (by rw [hR]; (repeat' split) <;> first | rfl | omega)
            ·
             simp [ee] at c76
             refine goA 60 ?_
             refine fn_ret rfl rfl (.val ?_)
             exact congrArg (Value.int .i64) (by rw [hR]; (repeat' split) <;> first | rfl | omega)
           ·
            simp [ee] at c75
            refine goA 0 ?_
            refine on_cond rfl (fun c77 => ?_) (fun c77 => ?_)
            ·
             simp [ee] at c77
             refine goA 0 ?_
             refine on_cond rfl (fun c78 => ?_) (fun c78 => ?_)
             ·
              simp [ee] at c78
              refine goA 60 ?_
              refine fn_ret rfl rfl (.val ?_)
              exact congrArg (Value.int .i64) (by rw [hR]; (repeat' split) <;> first | rfl | omega)
             ·
              simp [ee] at c78
              refine goA 60 ?_
              refine fn_ret rfl rfl (.val ?_)
              exact congrArg (Value.int .i64) (by rw [hR]; (repeat' split) <;> first | rfl | omega)
            ·
             simp [ee] at c77
             refine goA 0 ?_
             refine on_cond rfl (fun c79 => ?_) (fun c79 => ?_)
             ·
              simp [ee] at c79
              refine goA 60 ?_
              refine fn_ret rfl rfl (.val ?_)
              exact congrArg (Value.int .i64) (by rw [hR]; (repeat' split) <;> first | rfl | omega)
             ·
              simp [ee] at c79
              refine goA 60 ?_
              refine fn_ret rfl rfl (.val ?_)
              exact congrArg (Value.int .i64) (by rw [hR]; (repeat' split) <;> first | rfl | omega)
end Go.Am
end
section
set_option maxHeartbeats 16000000
set_option linter.unusedVariables false
set_option linter.unusedSimpArgs false
set_option maxRecDepth 20000
namespace Go.Am
open Go.Proofs
theorem P_ref08_node (e : Ex) (hlen : e.args.length < 1048576) : PCall EE 107 [e.enc] (int e.nodeE) := by
 have hu := P_ref08_uses e.op
 have har := P_ref08_arity e.op
 have hk := P_ref01_Check e.val
 have hsu := P_ref07_Suits e.kind e.val
 have h0 := @Vl.eq0 e.val
 have hcl := Ex.closed e
 obtain ⟨R, hR⟩ : ∃ R, R = e.nodeE := ⟨_, rfl⟩
 rw [← hR]
 have hss : 1 ≤ e.kind → suitsF e.kind e.val = suitsR e.kind e.val := fun h => by
  unfold suitsF suitsR; rw [Bool.eq_iff_iff]; simp; omega
 have hab : arityB e.op = decide (0 ≤ arityR e.op) := by
  unfold arityB arityR; rw [Bool.eq_iff_iff]; simp; (repeat' split) <;> omega
 have han : 0 ≤ arityR e.op → arityN e.op = arityR e.op := fun h => by
  unfold arityR at h; unfold arityN arityR; (repeat' split) <;> simp_all
 have hvl : e.val.enc = .agg [int e.val.kind, int e.val.num, str e.val.text] := rfl
 rw [hvl] at hk hsu
 unfold Ex.nodeE Ex.formB Ex.consE at hR
 generalize usesV e.op = uv at *
 generalize usesF e.op = uf at *
 generalize arityN e.op = an at *
 generalize arityB e.op = ab at *
 generalize arityR e.op = ar at *
 generalize suitsF e.kind e.val = sf at *
 generalize suitsR e.kind e.val = sr at *
 generalize e.val.chk = ck at *
 obtain ⟨o, a, v, f, k, ⟨xk, xn, xt⟩⟩ := e
 simp only [Ex.op, Ex.kind, Ex.val, Ex.args, Ex.var, Ex.fld] at *
 rw [Ex.enc_mk] at hcl ⊢
 dsimp only at *
 refine wordsN ?_; unhygienic intros
 generalize hes : mapE Ex.enc a = es at *
 have hel : es.length = a.length := by rw [← hes, mapE_len]
 refine fn_body (fn := Tryz.f107) (n := 131) (ac := Tryzc107) (rvs := [.t 2]) rfl (by decide) Tryzp107 rfl rfl rfl ?_
 refine goA 60 ?_
 refine pcA har ?_
 refine goA 0 ?_
 refine on_cond rfl (fun c1 => ?_) (fun c1 => ?_)
 ·
  simp [ee] at c1
  refine goA 60 ?_
  refine fn_ret rfl rfl (.val ?_)
  exact congrArg (Value.int .i64) (by rw [hR]; clear ee hX; grind)
 ·
  simp [ee] at c1
  refine goA 0 ?_
  refine on_cond rfl (fun c2 => ?_) (fun c2 => ?_)
  ·
   simp [ee] at c2
   refine goA 60 ?_
   refine fn_ret rfl rfl (.val ?_)
   exact congrArg (Value.int .i64) (by rw [hR]; clear ee hX; grind)
  ·
   simp [ee] at c2
   refine goA 60 ?_
   refine pcA hu ?_
   refine goA 0 ?_
   refine nsB hX (by conv => lhs; cbv) ?_
   refine goA 0 ?_
   refine nsB hX (by conv => lhs; cbv) ?_
   refine goA 0 ?_
   refine on_cond rfl (fun c3 => ?_) (fun c3 => ?_)
   ·
    simp [ee] at c3
    refine goA 60 ?_
    refine fn_ret rfl rfl (.val ?_)
    exact congrArg (Value.int .i64) (by rw [hR]; clear ee hX; grind)
   ·
    simp [ee] at c3
    refine goA 0 ?_
    refine nsB hX (by conv => lhs; cbv) ?_
    refine goA 0 ?_
    refine on_cond rfl (fun c4 => ?_) (fun c4 => ?_)
    ·
     simp [ee] at c4
     refine goA 60 ?_
     refine fn_ret rfl rfl (.val ?_)
     exact congrArg (Value.int .i64) (by rw [hR]; clear ee hX; grind)
    ·
     simp [ee] at c4
     refine goA 0 ?_
     refine on_cond rfl (fun c5 => ?_) (fun c5 => ?_)
     ·
      simp [ee] at c5
      refine goA 60 ?_
      refine pcA hk ?_
      refine goA 0 ?_
      refine on_cond rfl (fun c6 => ?_) (fun c6 => ?_)
      ·
       simp [ee] at c6
       refine goA 60 ?_
       refine fn_ret rfl rfl (.val ?_)
       exact congrArg (Value.int .i64) (by rw [hR]; clear ee hX; grind)
      ·
       simp [ee] at c6
       refine goA 0 ?_
       refine on_guard rfl rfl (fun c7 => ?_) (fun c7 => ?_)
       ·
        simp [ee] at c7
        refine goA 60 ?_
        refine pcG hsu ?_
        refine goA 0 ?_
        refine goA 1 ?_
        refine goA 1 ?_
        refine nsB hX (by conv => lhs; cbv) ?_
        refine goA 0 ?_
        refine on_cond rfl (fun c8 => ?_) (fun c8 => ?_)
        ·
         simp [ee] at c8
         refine goA 60 ?_
         refine fn_ret rfl rfl (.val ?_)
         exact congrArg (Value.int .i64) (by rw [hR]; clear ee hX; grind)
        ·
         simp [ee] at c8
         refine goA 0 ?_
         refine nsB hX (by conv => lhs; cbv) ?_
         refine goA 0 ?_
         refine nsB hX (by conv => lhs; cbv) ?_
         refine goA 0 ?_
         refine nsB hX (by conv => lhs; cbv) ?_
         refine goA 0 ?_
         refine on_cond rfl (fun c9 => ?_) (fun c9 => ?_)
         ·
          simp [ee] at c9
          refine goA 60 ?_
          refine fn_ret rfl rfl (.val ?_)
          exact congrArg (Value.int .i64) (by rw [hR]; clear ee hX; grind)
         ·
          simp [ee] at c9
          refine goA 60 ?_
          refine fn_ret rfl rfl (.val ?_)
          exact congrArg (Value.int .i64) (by rw [hR]; clear ee hX; grind)
       ·
        simp [ee] at c7
        refine goA 60 ?_
        refine on_gskip rfl rfl ?_
        refine goA 0 ?_
        refine goA 1 ?_
        refine nsB hX (by conv => lhs; cbv) ?_
        refine goA 0 ?_
        refine nsB hX (by conv => lhs; cbv) ?_
        refine goA 0 ?_
        refine nsB hX (by conv => lhs; cbv) ?_
        refine goA 0 ?_
        refine on_cond rfl (fun c10 => ?_) (fun c10 => ?_)
        ·
         simp [ee] at c10
         refine goA 60 ?_
         refine fn_ret rfl rfl (.val ?_)
         exact congrArg (Value.int .i64) (by rw [hR]; clear ee hX; grind)
        ·
         simp [ee] at c10
         refine goA 60 ?_
         refine fn_ret rfl rfl (.val ?_)
         exact congrArg (Value.int .i64) (by rw [hR]; clear ee hX; grind)
     ·
      simp [ee] at c5
      refine goA 0 ?_
      refine on_guard rfl rfl (fun c11 => ?_) (fun c11 => ?_)
      ·
       simp [ee] at c11
       refine goA 60 ?_
       refine pcG hsu ?_
       refine goA 0 ?_
       refine goA 1 ?_
       refine goA 1 ?_
       refine nsB hX (by conv => lhs; cbv) ?_
       refine goA 0 ?_
       refine on_cond rfl (fun c12 => ?_) (fun c12 => ?_)
       ·
        simp [ee] at c12
        refine goA 60 ?_
        refine fn_ret rfl rfl (.val ?_)
        exact congrArg (Value.int .i64) (by rw [hR]; clear ee hX; grind)
       ·
        simp [ee] at c12
        refine goA 0 ?_
        refine nsB hX (by conv => lhs; cbv) ?_
        refine goA 0 ?_
        refine nsB hX (by conv => lhs; cbv) ?_
        refine goA 0 ?_
        refine nsB hX (by conv => lhs; cbv) ?_
        refine goA 0 ?_
        refine on_cond rfl (fun c13 => ?_) (fun c13 => ?_)
        ·
         simp [ee] at c13
         refine goA 60 ?_
         refine fn_ret rfl rfl (.val ?_)
         exact congrArg (Value.int .i64) (by rw [hR]; clear ee hX; grind)
        ·
         simp [ee] at c13
         refine goA 60 ?_
         refine fn_ret rfl rfl (.val ?_)
         exact congrArg (Value.int .i64) (by rw [hR]; clear ee hX; grind)
      ·
       simp [ee] at c11
       refine goA 60 ?_
       refine on_gskip rfl rfl ?_
       refine goA 0 ?_
       refine goA 1 ?_
       refine nsB hX (by conv => lhs; cbv) ?_
       refine goA 0 ?_
       refine nsB hX (by conv => lhs; cbv) ?_
       refine goA 0 ?_
       refine nsB hX (by conv => lhs; cbv) ?_
       refine goA 0 ?_
       refine on_cond rfl (fun c14 => ?_) (fun c14 => ?_)
       ·
        simp [ee] at c14
        refine goA 60 ?_
        refine fn_ret rfl rfl (.val ?_)
        exact congrArg (Value.int .i64) (by rw [hR]; clear ee hX; grind)
       ·
        simp [ee] at c14
        refine goA 60 ?_
        refine fn_ret rfl rfl (.val ?_)
        exact congrArg (Value.int .i64) (by rw [hR]; clear ee hX; grind)
end Go.Am
end
section
set_option maxHeartbeats 16000000
set_option linter.unusedVariables false
set_option linter.unusedSimpArgs false
set_option maxRecDepth 20000
namespace Go.Am
open Go.Proofs
theorem Ex.reb_mk (to : List Int) (o a v f k x) : (Ex.mk o a v f k x).reb (renG to) = .mk o (Ex.rebL (renG to) a) (if usesV o then to.getD v.toNat 0 else v) f k x := by
 rw [Ex.reb, renG]
 simp only [Ex.op, Ex.args, Ex.var, Ex.fld, Ex.kind, Ex.val]
 split <;> simp_all
end Go.Am
end
section
set_option maxHeartbeats 16000000
set_option linter.unusedVariables false
set_option linter.unusedSimpArgs false
set_option maxRecDepth 20000
namespace Go.Am
open Go.Proofs
theorem P_ref08_nodes : ∀ e : Ex, e.Sm → PCall EE 92 [e.enc] (int (firstE Ex.nodeE e.nodes)) := by
 refine Ex.ind ?_
 intro o a v f k x ih hs
 have hlen := hs.len
 have hih : ∀ q ∈ a, PCall EE 92 [q.enc] (int (firstE Ex.nodeE q.nodes)) := fun q hq => ih q hq (hs.arg hq)
 have hcl := Ex.closedI a
 have hh := P_ref08_node (.mk o a v f k x) (by exact hlen)
 have hpc := Ex.closed (.mk o a v f k x)
 rw [Ex.nodes]
 obtain ⟨R, hR⟩ : ∃ R, R = firstE Ex.nodeE (Ex.mk o a v f k x :: Ex.nodesL a) := ⟨_, rfl⟩
 rw [← hR]
 rw [firstE] at hR
 obtain ⟨xk, xn, xt⟩ := x
 rw [Ex.enc_mk] at hpc hh ⊢
 dsimp only at hpc hh ⊢
 clear ih hs
 refine wordsN ?_; unhygienic intros
 generalize hes : mapE Ex.enc a = es at *
 have hel : es.length = a.length := by rw [← hes, mapE_len]
 generalize (Ex.mk o a v f k { kind := xk, num := xn, text := xt }).nodeE = fp at *
 refine fn_body (fn := Tryz.f92) (n := 27) (ac := Tryzc92) (rvs := [.t 2]) rfl (by decide) Tryzp92 rfl rfl rfl ?_
 by_cases h1 : fp = 0
 rotate_left
 · have w1 : iNe fp 0 = true := by simp only [ee]; simpa using h1
  have hR : R = fp := by rw [hR, if_pos h1]
  refine goA 60 ?_
  refine pcA hh ?_
  refine goB hX 0 (by conv => lhs; cbv; try simp only [w1]; cbv; try simp only [w1]; cbv; try simp only [w1]; cbv; try simp only [w1]; cbv) ?_
  refine goA 60 ?_
  refine fn_ret rfl rfl (.val ?_)
  exact congrArg (Value.int .i64) hR.symm
 have w1 : iNe fp 0 = false := by simp only [ee]; simpa using h1
 have hR : R = firstE Ex.nodeE (Ex.nodesL a) := by rw [hR, if_neg (by simpa using h1)]
 refine goA 60 ?_
 refine pcA hh ?_
 refine goB hX 0 (by conv => lhs; cbv; try simp only [w1]; cbv; try simp only [w1]; cbv; try simp only [w1]; cbv; try simp only [w1]; cbv) ?_
 refine goA 60 ?_
 refine on_loopP (ι := List Ex × List Ex × Int) (fun p => ([(4, int p.2.2), (1, .ptr 0 0)], [.cells [int o, .isl 8 es, int v, int f, int k, int xk, int xn, str xt]])) (fun p => a = p.1 ++ p.2.1 ∧ p.2.2 = p.1.length ∧ R = firstE Ex.nodeE (Ex.nodesL p.2.1)) (fun p => p.2.1.length) ([], a, 0) ⟨rfl, rfl, hR⟩ ?_ ?_
 · exact (ent_sub [.to 0] [some 0] ⟨⟨by simp, rfl⟩, trivial⟩ ⟨osrc_cells (b := 0) rfl rfl rfl ⟨.refl _, .cl hcl, .refl _, .refl _, .refl _, .refl _, .refl _, .refl _, trivial⟩, trivial⟩ ⟨.refl _, .refl _, trivial⟩)
 rintro ⟨d, r, i⟩ ⟨g1, gi, gR⟩
 dsimp only at g1 gi gR ⊢
 cases r with
 | nil =>
  have L1 := len_split g1
  try simp only [List.length_cons, List.length_nil] at L1
  have hc : iLt i (lenA es) = false := lt_f e_iLt e_lenA (by omega)
  have gR : R = 0 := gR
  refine goB hX 0 (by conv => lhs; cbv; try simp only [hc]; cbv; try simp only [hc]; cbv; try simp only [hc]; cbv; try simp only [hc]; cbv) ?_
  refine goA 60 ?_
  refine loopP_exit ?_
  refine goA 60 ?_
  refine fn_ret rfl rfl (.val ?_)
  exact congrArg (Value.int .i64) gR.symm
 | cons q r =>
  have L1 := len_split g1
  try simp only [List.length_cons, List.length_nil] at L1
  have hc : iLt i (lenA es) = true := lt_t e_iLt e_lenA (by omega)
  have hat := el_at e_atA hes g1 gi
  have hq := hih q (by rw [g1]; simp)
  have hqc := Ex.closed q
  rw [Ex.nodesL, firstE_append] at gR
  obtain ⟨qO, qA, qV, qF, qK, qXk, qXn, qXt, hx⟩ := Ex.form q
  rw [hx] at hat hqc hq
  have hi2 : iAdd .i64 i 1 = ((d ++ [q]).length : Int) := by rw [List.length_append]; exact inc_w e_iAdd gi (by omega)
  generalize firstE Ex.nodeE q.nodes = fq at *
  by_cases h2 : fq = 0
  · have w2 : iNe fq 0 = false := by simp only [ee]; simpa using h2
   rw [if_neg (by simpa using h2)] at gR
   refine goB hX 0 (by conv => lhs; cbv; try simp only [hc, hat, w2]; cbv; try simp only [hc, hat, w2]; cbv; try simp only [hc, hat, w2]; cbv; try simp only [hc, hat, w2]; cbv) ?_
   refine goB hX 1 (by conv => lhs; cbv; try simp only [hc, hat, w2]; cbv; try simp only [hc, hat, w2]; cbv; try simp only [hc, hat, w2]; cbv; try simp only [hc, hat, w2]; cbv) ?_
   refine pcA hq ?_
   refine goB hX 0 (by conv => lhs; cbv; try simp only [hc, hat, w2]; cbv; try simp only [hc, hat, w2]; cbv; try simp only [hc, hat, w2]; cbv; try simp only [hc, hat, w2]; cbv) ?_
   refine goA 60 ?_
   refine loopP_next (d ++ [q], r, iAdd .i64 i 1) ⟨by simp [g1], hi2, gR⟩ (by simp) (ent_sub [.to 0] [some 0] ⟨⟨by simp, rfl⟩, trivial⟩ ⟨osrc_cells (b := 0) rfl rfl rfl ⟨.refl _, .cl hcl, .refl _, .refl _, .refl _, .refl _, .refl _, .refl _, trivial⟩, trivial⟩ ⟨.refl _, .refl _, trivial⟩)
  · have w2 : iNe fq 0 = true := by simp only [ee]; simpa using h2
   rw [if_pos h2] at gR
   refine goB hX 0 (by conv => lhs; cbv; try simp only [hc, hat, w2]; cbv; try simp only [hc, hat, w2]; cbv; try simp only [hc, hat, w2]; cbv; try simp only [hc, hat, w2]; cbv) ?_
   refine goB hX 1 (by conv => lhs; cbv; try simp only [hc, hat, w2]; cbv; try simp only [hc, hat, w2]; cbv; try simp only [hc, hat, w2]; cbv; try simp only [hc, hat, w2]; cbv) ?_
   refine pcA hq ?_
   refine goB hX 0 (by conv => lhs; cbv; try simp only [hc, hat, w2]; cbv; try simp only [hc, hat, w2]; cbv; try simp only [hc, hat, w2]; cbv; try simp only [hc, hat, w2]; cbv) ?_
   refine goA 60 ?_
   refine loopP_ret ?_
   refine goA 60 ?_
   refine fn_ret rfl rfl (.val ?_)
   exact congrArg (Value.int .i64) gR.symm
theorem P_ref08_Check (e : Ex) (hs : e.Sm) : PCall EE 81 [e.enc] (int e.chk) := by
 have h1 := P_ref08_Count 64 (by decide) e hs
 have h2 := P_ref08_Depth e hs
 have h3 := P_ref08_nodes e hs
 have htot := Ex.tot_iff e 64
 have hcl := Ex.closed e
 obtain ⟨R, hR⟩ : ∃ R, R = e.chk := ⟨_, rfl⟩
 rw [← hR]
 unfold Ex.chk at hR
 obtain ⟨tt, htt⟩ : ∃ z : Int, z = e.tot 64 := ⟨_, rfl⟩
 obtain ⟨dp, hdp⟩ : ∃ z : Int, z = e.dep := ⟨_, rfl⟩
 rw [← htt] at h1
 rw [← hdp] at h2
 generalize firstE Ex.nodeE e.nodes = fe at *
 obtain ⟨eO, eA, eV, eF, eK, eXk, eXn, eXt, hx⟩ := Ex.form e
 rw [hx] at h1 h2 h3 hcl ⊢
 refine wordsN ?_; unhygienic intros
 refine fn_body (fn := Tryz.f81) (n := 11) (ac := Tryzc81) (rvs := [.t 2]) rfl (by decide) Tryzp81 rfl rfl rfl ?_
 by_cases g1 : tt ≤ 64
 rotate_left
 · have k1 : iLt 64 tt = true := by simp only [ee]; simp; omega
  rw [if_pos (by omega)] at hR
  refine goA 60 ?_
  refine pcA h1 ?_
  refine goB hX 0 (by conv => lhs; cbv; try simp only [k1]; cbv; try simp only [k1]; cbv; try simp only [k1]; cbv; try simp only [k1]; cbv) ?_
  refine goA 60 ?_
  refine fn_ret rfl rfl (.val ?_)
  exact congrArg (Value.int .i64) hR.symm
 have k1 : iLt 64 tt = false := by simp only [ee]; simp; omega
 rw [if_neg (by omega)] at hR
 by_cases g2 : dp ≤ 12
 rotate_left
 · have k2 : iLt 12 dp = true := by simp only [ee]; simp; omega
  rw [if_pos (by omega)] at hR
  refine goA 60 ?_
  refine pcA h1 ?_
  refine goB hX 0 (by conv => lhs; cbv; try simp only [k1, k2]; cbv; try simp only [k1, k2]; cbv; try simp only [k1, k2]; cbv; try simp only [k1, k2]; cbv) ?_
  refine goA 60 ?_
  refine pcA h2 ?_
  refine goB hX 0 (by conv => lhs; cbv; try simp only [k1, k2]; cbv; try simp only [k1, k2]; cbv; try simp only [k1, k2]; cbv; try simp only [k1, k2]; cbv) ?_
  refine goA 60 ?_
  refine fn_ret rfl rfl (.val ?_)
  exact congrArg (Value.int .i64) hR.symm
 have k2 : iLt 12 dp = false := by simp only [ee]; simp; omega
 rw [if_neg (by omega)] at hR
 refine goA 60 ?_
 refine pcA h1 ?_
 refine goB hX 0 (by conv => lhs; cbv; try simp only [k1, k2]; cbv; try simp only [k1, k2]; cbv; try simp only [k1, k2]; cbv; try simp only [k1, k2]; cbv) ?_
 refine goA 60 ?_
 refine pcA h2 ?_
 refine goB hX 0 (by conv => lhs; cbv; try simp only [k1, k2]; cbv; try simp only [k1, k2]; cbv; try simp only [k1, k2]; cbv; try simp only [k1, k2]; cbv) ?_
 refine goA 60 ?_
 refine pcA h3 ?_
 refine goA 60 ?_
 refine fn_ret rfl rfl (.val ?_)
 exact congrArg (Value.int .i64) hR.symm
theorem Ex.rebL_snoc (G : Ex → Ex) (d : List Ex) (q : Ex) : Ex.rebL G (d ++ [q]) = Ex.rebL G d ++ [q.reb G] := by rw [Ex.rebL_append]; rfl
theorem Ex.nodeE_some (to : List Int) (e : Ex) : firstE (renE to) e.nodes = if renE to e ≠ 0 then renE to e else firstE (renE to) (Ex.nodesL e.args) := by rw [Ex.nodes_eq, firstE]
theorem P_ref08_ren (to : List Int) (htl : to.length < 1048577) : ∀ e : Ex, e.Sm → (∀ q ∈ e.nodes, usesV q.op = true → 0 ≤ q.var) → PCall EE 89 [e.enc, .isl 1 (mapE int to)] (.tup [(if firstE (renE to) e.nodes = 0 then e.reb (renG to) else Ex0).enc, int (firstE (renE to) e.nodes)]) := by
 refine Ex.ind ?_
 intro o a v f k x ih hs hv
 have hlen := hs.len
 have hih : ∀ q ∈ a, _ := fun q hq => ih q hq (hs.arg hq) fun q2 hq2 => hv q2 (by
  rw [Ex.nodes]
  obtain ⟨d, r, rfl⟩ := List.append_of_mem hq
  simp [Ex.nodesL_append, Ex.nodesL, hq2])
 have hv0 := hv _ (by rw [Ex.nodes]; exact List.mem_cons_self)
 simp only [Ex.op, Ex.var] at hv0
 have hcl := Ex.closedI a
 have hpc := Ex.closed (.mk o a v f k x)
 have hu := P_ref08_uses o
 have hct := closedL_int to
 have hcI := closedI_int to
 have hrm := Ex.reb_mk to o a v f k x
 have e0 := Ex0.form
 obtain ⟨E, hE⟩ : ∃ E, E = firstE (renE to) (Ex.mk o a v f k x).nodes := ⟨_, rfl⟩
 rw [← hE]
 obtain ⟨X, hXX⟩ : ∃ X, X = if E = 0 then (Ex.mk o a v f k x).reb (renG to) else Ex0 := ⟨_, rfl⟩
 rw [← hXX]
 rw [hrm] at hXX
 rw [Ex.nodeE_some] at hE
 simp only [Ex.args] at hE
 have hrE : renE to (.mk o a v f k x) = if usesV o = false then 0 else if (to.length : Int) ≤ v then 6 else if to.getD v.toNat 0 < 0 ∨ 16 ≤ to.getD v.toNat 0 then 2 else 0 := rfl
 rw [hrE] at hE
 have hgt : usesV o = true → ¬ (to.length : Int) ≤ v → (mapE int to).getD v.toNat .undef = int (to.getD v.toNat 0) := fun a b => by
  have := hv0 a
  rw [mapE_eq, List.getD_eq_getElem?_getD, List.getElem?_map, List.getD_eq_getElem?_getD, List.getElem?_eq_getElem (by omega)]; rfl
 have hll : (mapE int to).length = to.length := mapE_len ..
 obtain ⟨xk, xn, xt⟩ := x
 rw [Ex.enc_mk] at hpc ⊢
 dsimp only at hpc ⊢
 clear ih hs hv hrm hrE
 refine wordsN ?_; unhygienic intros
 generalize hes : mapE Ex.enc a = es at *
 have hel : es.length = a.length := by rw [← hes, mapE_len]
 generalize mapE int to = ts at *
 generalize to.getD v.toNat 0 = tv at *
 have hat : usesV o = true → ¬ (to.length : Int) ≤ v → atA ts v = int tv := fun a b => by simp only [ee]; exact hgt a b
 clear hgt
 generalize usesV o = uv at *
 generalize usesF o = uf at *
 have hnil : mapE Ex.enc [] = [] := by rw [mapE_eq]; rfl
 refine fn_body (fn := Tryz.f89) (n := 76) (ac := Tryzc89) (rvs := [.cell 4 8 true, .t 5]) rfl (by decide) Tryzp89 rfl rfl rfl ?_
 have hnl2 : mapE Ex.enc (Ex.rebL (renG to) []) = [] := by rw [show Ex.rebL (renG to) [] = [] from rfl]; exact hnil
 cases uv
 case' true =>
  rw [if_neg (show ¬ ((true : Bool) = false) by decide)] at hE
  have hv0 := hv0 rfl
  have k3t : (to.length : Int) ≤ v → iLe (lenA ts) v = true := fun h => by simp only [ee]; simp; omega
  by_cases hl : (to.length : Int) ≤ v
  · have k3 := k3t hl
   rw [if_pos hl, if_pos (by decide)] at hE
   rw [if_neg (by omega)] at hXX
   rw [hXX, hE, e0]
   refine goA 60 ?_
   refine pcA hu ?_
   refine goB hX 0 (by conv => lhs; cbv; try simp only [k3]; cbv; try simp only [k3]; cbv; try simp only [k3]; cbv; try simp only [k3]; cbv) ?_
   refine goB hX 1 (by conv => lhs; cbv; try simp only [k3]; cbv; try simp only [k3]; cbv; try simp only [k3]; cbv; try simp only [k3]; cbv) ?_
   refine goA 60 ?_
   refine fn_ret rfl rfl ?_
   exact ⟨[.gone, .gone, .gone], ⟨trivial, trivial, trivial, trivial⟩, .tup' ⟨.agg' ⟨.refl _, .nilI _, .refl _, .refl _, .refl _, .refl _, .refl _, .refl _, trivial⟩, .refl _, trivial⟩⟩
  have k3 : iLe (lenA ts) v = false := by simp only [ee]; simp; omega
  have hat := hat rfl hl
  rw [if_neg hl] at hE
  by_cases ht : tv < 0 ∨ 16 ≤ tv
  · have k5 : bOr (iLt tv 0) (iLe 16 tv) = true := by simp only [ee]; simpa using ht
   rw [if_pos ht, if_pos (by decide)] at hE
   rw [if_neg (by omega)] at hXX
   rw [hXX, hE, e0]
   refine goA 60 ?_
   refine pcA hu ?_
   refine goB hX 0 (by conv => lhs; cbv; try simp only [k3, hat, k5]; cbv; try simp only [k3, hat, k5]; cbv; try simp only [k3, hat, k5]; cbv; try simp only [k3, hat, k5]; cbv) ?_
   refine goB hX 1 (by conv => lhs; cbv; try simp only [k3, hat, k5]; cbv; try simp only [k3, hat, k5]; cbv; try simp only [k3, hat, k5]; cbv; try simp only [k3, hat, k5]; cbv) ?_
   refine goB hX 1 (by conv => lhs; cbv; try simp only [k3, hat, k5]; cbv; try simp only [k3, hat, k5]; cbv; try simp only [k3, hat, k5]; cbv; try simp only [k3, hat, k5]; cbv) ?_
   refine goA 60 ?_
   refine fn_ret rfl rfl ?_
   exact ⟨[.gone, .gone, .gone], ⟨trivial, trivial, trivial, trivial⟩, .tup' ⟨.agg' ⟨.refl _, .nilI _, .refl _, .refl _, .refl _, .refl _, .refl _, .refl _, trivial⟩, .refl _, trivial⟩⟩
  have k5 : bOr (iLt tv 0) (iLe 16 tv) = false := by simp only [ee]; simp; omega
  rw [if_neg ht, if_neg (by decide)] at hE
  rw [if_pos rfl] at hXX
  refine goA 60 ?_
  refine pcA hu ?_
  refine goB hX 0 (by conv => lhs; cbv; try simp only [k3, hat, k5]; cbv; try simp only [k3, hat, k5]; cbv; try simp only [k3, hat, k5]; cbv; try simp only [k3, hat, k5]; cbv) ?_
  refine goB hX 1 (by conv => lhs; cbv; try simp only [k3, hat, k5]; cbv; try simp only [k3, hat, k5]; cbv; try simp only [k3, hat, k5]; cbv; try simp only [k3, hat, k5]; cbv) ?_
  refine goB hX 1 (by conv => lhs; cbv; try simp only [k3, hat, k5]; cbv; try simp only [k3, hat, k5]; cbv; try simp only [k3, hat, k5]; cbv; try simp only [k3, hat, k5]; cbv) ?_
  refine goB hX 1 (by conv => lhs; cbv; try simp only [k3, hat, k5]; cbv; try simp only [k3, hat, k5]; cbv; try simp only [k3, hat, k5]; cbv; try simp only [k3, hat, k5]; cbv) ?_
  refine on_ent (F' := [(9, int 0), (1, .isl 1 ts), (2, .ptr 0 0), (4, .ptr 1 0), (5, int 0), (6, .ptr 2 0)]) (H' := [.cells [int o, .isl 8 es, int v, int f, int k, int xk, int xn, str xt], .cells [int 0, .val (.slice none 0 0), int 0, int 0, int 0, int 0, int 0, str ⟨#[]⟩], .cells [int o, .val (.slice none 0 0), int tv, int f, int k, int xk, int xn, str xt]]) ?_ ?_
  · exact (ent_sub [.to 0, .to 1, .to 2] [some 0, some 1, some 2] ⟨⟨by simp, rfl⟩, ⟨by simp, rfl⟩, ⟨by simp, rfl⟩, trivial⟩ ⟨osrc_cells (b := 0) rfl rfl rfl ⟨.refl _, .cl hcl, .refl _, .refl _, .refl _, .refl _, .refl _, .refl _, trivial⟩, osrc_cells (b := 1) rfl rfl rfl ⟨.refl _, .refl _, .refl _, .refl _, .refl _, .refl _, .refl _, .refl _, trivial⟩, osrc_cells (b := 2) rfl rfl rfl ⟨.refl _, .refl _, .refl _, .refl _, .refl _, .refl _, .refl _, .refl _, trivial⟩, trivial⟩ ⟨.refl _, .cl hcI, .refl _, .refl _, .refl _, .refl _, trivial⟩)
  obtain ⟨nv, hnv⟩ : ∃ z, z = tv := ⟨_, rfl⟩
  rw [← hnv] at hXX ⊢
  clear hnv ht hl k3 k5 hat hv0 k3t
 case' false =>
  rw [if_pos rfl, if_neg (by decide)] at hE
  rw [if_neg (by decide : ¬ ((false : Bool) = true))] at hXX
  refine goA 60 ?_
  refine pcA hu ?_
  refine goA 60 ?_
  refine on_ent (F' := [(9, int 0), (1, .isl 1 ts), (2, .ptr 0 0), (4, .ptr 1 0), (5, int 0), (6, .ptr 2 0)]) (H' := [.cells [int o, .isl 8 es, int v, int f, int k, int xk, int xn, str xt], .cells [int 0, .val (.slice none 0 0), int 0, int 0, int 0, int 0, int 0, str ⟨#[]⟩], .cells [int o, .val (.slice none 0 0), int v, int f, int k, int xk, int xn, str xt]]) ?_ ?_
  · exact (ent_sub [.to 0, .to 1, .to 2] [some 0, some 1, some 2] ⟨⟨by simp, rfl⟩, ⟨by simp, rfl⟩, ⟨by simp, rfl⟩, trivial⟩ ⟨osrc_cells (b := 0) rfl rfl rfl ⟨.refl _, .cl hcl, .refl _, .refl _, .refl _, .refl _, .refl _, .refl _, trivial⟩, osrc_cells (b := 1) rfl rfl rfl ⟨.refl _, .refl _, .refl _, .refl _, .refl _, .refl _, .refl _, .refl _, trivial⟩, osrc_cells (b := 2) rfl rfl rfl ⟨.refl _, .refl _, .refl _, .refl _, .refl _, .refl _, .refl _, .refl _, trivial⟩, trivial⟩ ⟨.refl _, .cl hcI, .refl _, .refl _, .refl _, .refl _, trivial⟩)
  obtain ⟨nv, hnv⟩ : ∃ z, z = v := ⟨_, rfl⟩
  rw [show (AObj.cells [int o, .val (.slice none 0 0), int v, int f, int k, int xk, int xn, str xt]) = .cells [int o, .val (.slice none 0 0), int nv, int f, int k, int xk, int xn, str xt] by rw [hnv]]
  rw [← hnv] at hXX
  clear hnv hv0 hat
 all_goals
  refine on_loopP (ι := Int × Nat × List AV × List Ex × List Ex) (fun p => ([(9, int p.1), (1, .isl 1 ts), (2, .ptr 0 0), (4, .ptr 1 0), (5, int 0), (6, .ptr 2 0)], [.cells [int o, .isl 8 es, int v, int f, int k, int xk, int xn, str xt], .cells [int 0, .val (.slice none 0 0), int 0, int 0, int 0, int 0, int 0, str ⟨#[]⟩], .cells [int o, .sl 3 8 0 p.2.1, int nv, int f, int k, int xk, int xn, str xt], .arr 8 p.2.2.1])) (fun p => a = p.2.2.2.1 ++ p.2.2.2.2 ∧ p.1 = p.2.2.2.1.length ∧ p.2.1 = p.2.2.1.length ∧ p.2.2.1 = mapE Ex.enc (Ex.rebL (renG to) p.2.2.2.1) ∧ E = firstE (renE to) (Ex.nodesL p.2.2.2.2)) (fun p => p.2.2.2.2.length) (0, 0, [], [], a) ⟨rfl, rfl, rfl, hnl2.symm, hE⟩ ?_ ?_
  · exact (ent_sub [.to 0, .to 1, .to 2] [some 0, some 1, some 2, none] ⟨⟨by simp, rfl⟩, ⟨by simp, rfl⟩, ⟨by simp, rfl⟩, trivial⟩ ⟨osrc_cells (b := 0) rfl rfl rfl ⟨.refl _, .cl hcl, .refl _, .refl _, .refl _, .refl _, .refl _, .refl _, trivial⟩, osrc_cells (b := 1) rfl rfl rfl ⟨.refl _, .refl _, .refl _, .refl _, .refl _, .refl _, .refl _, .refl _, trivial⟩, osrc_cells (b := 2) rfl rfl rfl ⟨.refl _, .nilS _ _ _ (by simp), .refl _, .refl _, .refl _, .refl _, .refl _, .refl _, trivial⟩, .none _ rfl, trivial⟩ ⟨.refl _, .cl hcI, .refl _, .refl _, .refl _, .refl _, trivial⟩)
  rintro ⟨i, m, w, d, r⟩ ⟨g1, gi, gm, gw, gE⟩
  dsimp only at g1 gi gm gw gE ⊢
  have hcw : AV.closedL w = true := by rw [gw]; exact Ex.closedL _
  have hwl : w.length = d.length := by rw [gw, mapE_len, Ex.rebL_len]
  have hfw : fitB 8 w = true := by rw [gw]; exact fitEx _
  cases r with
  | nil =>
   have L1 := len_split g1
   try simp only [List.length_cons, List.length_nil] at L1
   have hc : iLt i (lenA es) = false := lt_f e_iLt e_lenA (by omega)
   have gE : E = 0 := gE
   rw [List.append_nil] at g1
   rw [if_pos gE] at hXX
   rw [hXX, Ex.enc_mk, g1, ← gw, gE]
   refine goB hX 0 (by conv => lhs; cbv; try simp only [hc]; cbv; try simp only [hc]; cbv; try simp only [hc]; cbv; try simp only [hc]; cbv) ?_
   refine goA 60 ?_
   refine loopP_exit ?_
   refine goA 60 ?_
   refine fn_ret rfl rfl ?_
   exact ⟨[.gone, .gone, .gone, .isl 8 (w)], ⟨trivial, trivial, trivial, ⟨_, rfl, (subL_closed _ hcw).symm⟩, trivial⟩, .tup' ⟨.agg' ⟨.refl _, .of (sub_whole rfl (by assumption)), .refl _, .refl _, .refl _, .refl _, .refl _, .refl _, trivial⟩, .refl _, trivial⟩⟩
  | cons q r =>
   have L1 := len_split g1
   try simp only [List.length_cons, List.length_nil] at L1
   have hc : iLt i (lenA es) = true := lt_t e_iLt e_lenA (by omega)
   have hat := el_at e_atA hes g1 gi
   have hq := hih q (by rw [g1]; simp)
   have hqc := Ex.closed q
   rw [Ex.nodesL, firstE_append] at gE
   have hsn := Ex.rebL_snoc (renG to) d q
   have hi2 : iAdd .i64 i 1 = ((d ++ [q]).length : Int) := by rw [List.length_append]; exact inc_w e_iAdd gi (by omega)
   generalize firstE (renE to) q.nodes = fq at *
   generalize hqr : q.reb (renG to) = qr at *
   have hrc := Ex.closed qr
   by_cases h2 : fq = 0
   · have w2 : iNe fq 0 = false := by simp only [ee]; simpa using h2
    rw [if_neg (by simpa using h2)] at gE
    rw [if_pos h2] at hq
    obtain ⟨qO, qA, qV, qF, qK, qXk, qXn, qXt, hx⟩ := Ex.form q
    obtain ⟨qrO, qrA, qrV, qrF, qrK, qrXk, qrXn, qrXt, hy⟩ := Ex.form qr
    rw [hx] at hat hqc hq
    rw [hy] at hq hrc
    have u1 : catA (dropA w 0) (partA [.agg [int qrO, .isl 8 qrA, int qrV, int qrF, int qrK, int qrXk, int qrXn, str qrXt]] 0 1) = mapE Ex.enc (Ex.rebL (renG to) (d ++ [q])) := by rw [hsn, mapE_eq, List.map_append, ← mapE_eq, ← gw, List.map_cons, List.map_nil, hy]; simp only [ee]; simp
    have u2 : addN m (lenN (partA [.agg [int qrO, .isl 8 qrA, int qrV, int qrF, int qrK, int qrXk, int qrXn, str qrXt]] 0 1)) = (catA (dropA w 0) (partA [.agg [int qrO, .isl 8 qrA, int qrV, int qrF, int qrK, int qrXk, int qrXn, str qrXt]] 0 1)).length := by simp only [ee]; simp [gm]
    have u3 : AV.closedL (catA (dropA w 0) (partA [.agg [int qrO, .isl 8 qrA, int qrV, int qrF, int qrK, int qrXk, int qrXn, str qrXt]] 0 1)) = true := by rw [u1]; exact Ex.closedL _
    refine goB hX 0 (by conv => lhs; cbv; try simp only [hc, hat, w2]; cbv; try simp only [hc, hat, w2]; cbv; try simp only [hc, hat, w2]; cbv; try simp only [hc, hat, w2]; cbv) ?_
    refine goB hX 1 (by conv => lhs; cbv; try simp only [hc, hat, w2]; cbv; try simp only [hc, hat, w2]; cbv; try simp only [hc, hat, w2]; cbv; try simp only [hc, hat, w2]; cbv) ?_
    refine pcA hq ?_
    refine goB hX 0 (by conv => lhs; cbv; try simp only [hc, hat, w2]; cbv; try simp only [hc, hat, w2]; cbv; try simp only [hc, hat, w2]; cbv; try simp only [hc, hat, w2]; cbv) ?_
    refine goA 60 ?_
    refine loopP_next (iAdd .i64 i 1, addN m (lenN (partA [.agg [int qrO, .isl 8 qrA, int qrV, int qrF, int qrK, int qrXk, int qrXn, str qrXt]] 0 1)), catA (dropA w 0) (partA [.agg [int qrO, .isl 8 qrA, int qrV, int qrF, int qrK, int qrXk, int qrXn, str qrXt]] 0 1), d ++ [q], r) ⟨by simp [g1], hi2, u2, u1, gE⟩ (by simp) (ent_sub [.to 0, .to 1, .to 2, .gone, .gone, .gone, .to 3] [some 0, some 1, some 2, some 6] ⟨⟨by simp, rfl⟩, ⟨by simp, rfl⟩, ⟨by simp, rfl⟩, trivial, trivial, trivial, ⟨by simp, rfl⟩, trivial⟩ ⟨osrc_cells (b := 0) rfl rfl rfl ⟨.refl _, .cl hcl, .refl _, .refl _, .refl _, .refl _, .refl _, .refl _, trivial⟩, osrc_cells (b := 1) rfl rfl rfl ⟨.refl _, .refl _, .refl _, .refl _, .refl _, .refl _, .refl _, .refl _, trivial⟩, osrc_cells (b := 2) rfl rfl rfl ⟨.refl _, .refl _, .refl _, .refl _, .refl _, .refl _, .refl _, .refl _, trivial⟩, osrc_arr (b := 6) rfl rfl rfl rfl u3, trivial⟩ ⟨.refl _, .cl hcI, .refl _, .refl _, .refl _, .refl _, trivial⟩)
   · have w2 : iNe fq 0 = true := by simp only [ee]; simpa using h2
    rw [if_pos h2] at gE
    rw [if_neg h2, e0] at hq
    rw [if_neg (by omega)] at hXX
    rw [hXX, gE, e0]
    obtain ⟨qO, qA, qV, qF, qK, qXk, qXn, qXt, hx⟩ := Ex.form q
    rw [hx] at hat hqc hq
    refine goB hX 0 (by conv => lhs; cbv; try simp only [hc, hat, w2]; cbv; try simp only [hc, hat, w2]; cbv; try simp only [hc, hat, w2]; cbv; try simp only [hc, hat, w2]; cbv) ?_
    refine goB hX 1 (by conv => lhs; cbv; try simp only [hc, hat, w2]; cbv; try simp only [hc, hat, w2]; cbv; try simp only [hc, hat, w2]; cbv; try simp only [hc, hat, w2]; cbv) ?_
    refine pcA hq ?_
    refine goB hX 0 (by conv => lhs; cbv; try simp only [hc, hat, w2]; cbv; try simp only [hc, hat, w2]; cbv; try simp only [hc, hat, w2]; cbv; try simp only [hc, hat, w2]; cbv) ?_
    refine goA 60 ?_
    refine loopP_ret ?_
    refine goA 60 ?_
    refine fn_ret rfl rfl ?_
    exact ⟨[.gone, .gone, .gone, .gone, .gone], ⟨trivial, trivial, trivial, trivial, trivial, trivial⟩, .tup' ⟨.agg' ⟨.refl _, .nilI _, .refl _, .refl _, .refl _, .refl _, .refl _, .refl _, trivial⟩, .refl _, trivial⟩⟩
end Go.Am
end
section
set_option maxHeartbeats 16000000
set_option linter.unusedVariables false
set_option linter.unusedSimpArgs false
set_option maxRecDepth 20000
namespace Go.Am
open Go.Proofs
theorem P_ref08_Rename (to : List Int) (htl : to.length < 1048577) (e : Ex) (hs : e.Sm) : PCall EE 75 [e.enc, .isl 1 (mapE int to)] (.tup [(e.rename to).enc, int (e.renErr to)]) := by
 have h1 := P_ref08_Check e hs
 have h2 := fun (h : e.chk = 0) => P_ref08_ren to htl e hs fun q hq hu => (Ex.nodeE_var (Ex.chk_nodes h q hq) hu).1
 have hcl := Ex.closed e
 have hct := closedL_int to
 have hcI := closedI_int to
 have e0 := Ex0.form
 obtain ⟨X, hX1⟩ : ∃ X, X = e.rename to := ⟨_, rfl⟩
 obtain ⟨E, hE⟩ : ∃ X, X = e.renErr to := ⟨_, rfl⟩
 rw [← hX1, ← hE]
 unfold Ex.rename at hX1
 rw [← hE] at hX1
 unfold Ex.renErr at hE
 generalize e.chk = ck at *
 generalize firstE (renE to) e.nodes = fe at *
 generalize e.reb (renG to) = er at *
 obtain ⟨eO, eA, eV, eF, eK, eXk, eXn, eXt, hx⟩ := Ex.form e
 rw [hx] at h1 h2 hcl ⊢
 refine wordsN ?_; unhygienic intros
 refine fn_body (fn := Tryz.f75) (n := 18) (ac := Tryzc75) (rvs := [.cell 4 8 true, .t 5]) rfl (by decide) Tryzp75 rfl rfl rfl ?_
 by_cases hk : ck = 0
 rotate_left
 · have k1 : iNe ck 0 = true := by simp only [ee]; simpa using hk
  rw [if_pos hk] at hE
  rw [if_neg (by omega)] at hX1
  rw [hX1, hE, e0]
  refine goA 60 ?_
  refine pcA h1 ?_
  refine goB hX 0 (by conv => lhs; cbv; try simp only [k1]; cbv; try simp only [k1]; cbv; try simp only [k1]; cbv; try simp only [k1]; cbv) ?_
  refine goA 60 ?_
  refine fn_ret rfl rfl ?_
  exact ⟨[.gone, .gone], ⟨trivial, trivial, trivial⟩, .tup' ⟨.agg' ⟨.refl _, .nilI _, .refl _, .refl _, .refl _, .refl _, .refl _, .refl _, trivial⟩, .refl _, trivial⟩⟩
 have k1 : iNe ck 0 = false := by simp only [ee]; simpa using hk
 rw [if_neg (by simpa using hk)] at hE
 have h2 := h2 hk
 rw [← hE, ← hX1] at h2
 obtain ⟨XO, XA, XV, XF, XK, XXk, XXn, XXt, hy⟩ := Ex.form X
 have hyc := Ex.closed X
 rw [hy] at h2 hyc ⊢
 refine goA 60 ?_
 refine pcA h1 ?_
 refine goB hX 0 (by conv => lhs; cbv; try simp only [k1]; cbv; try simp only [k1]; cbv; try simp only [k1]; cbv; try simp only [k1]; cbv) ?_
 refine goA 60 ?_
 refine pcA h2 ?_
 refine goA 60 ?_
 refine fn_ret rfl rfl ?_
 exact ⟨[.gone, .gone], ⟨trivial, trivial, trivial⟩, .tup' ⟨.cl hyc, .refl _, trivial⟩⟩
theorem P_Negates (p : Pat) : PCall EE 52 [p.enc] (bool (decide (p.op = 5 ∨ p.op = 9))) := by
 obtain ⟨R, hR⟩ : ∃ R, R = decide (p.op = 5 ∨ p.op = 9) := ⟨_, rfl⟩
 rw [← hR]
 have hcl := Pat.closed p
 obtain ⟨pO, pA, pT, pV, pS, pN, pCo, pCa, pCv, pCf, pCk, pXk, pXn, pXt, hx, hxc, hpO, hpA, hpT, hpV, hpS, hpN⟩ := Pat.form2 p
 rw [hx] at hcl ⊢
 rw [← hpO] at hR
 refine wordsN ?_; unhygienic intros
 refine fn_body (fn := Tryz.f52) (n := 11) (ac := Tryzc52) (rvs := [.t 2]) rfl (by decide) Tryzp52 rfl rfl rfl ?_
 refine goA 60 ?_
 refine fn_ret rfl rfl (.val ?_)
 exact congrArg Value.bool (by rw [hR, Bool.eq_iff_iff]; simp only [ee]; simp)
theorem P_Times (p : Pat) : PCall EE 53 [p.enc] (bool (spanF p.op)) := by
 obtain ⟨R, hR⟩ : ∃ R, R = spanF p.op := ⟨_, rfl⟩
 rw [← hR]
 unfold spanF at hR
 have hcl := Pat.closed p
 obtain ⟨pO, pA, pT, pV, pS, pN, pCo, pCa, pCv, pCf, pCk, pXk, pXn, pXt, hx, hxc, hpO, hpA, hpT, hpV, hpS, hpN⟩ := Pat.form2 p
 rw [hx] at hcl ⊢
 rw [← hpO] at hR
 refine wordsN ?_; unhygienic intros
 refine fn_body (fn := Tryz.f53) (n := 11) (ac := Tryzc53) (rvs := [.t 2]) rfl (by decide) Tryzp53 rfl rfl rfl ?_
 refine goA 60 ?_
 refine fn_ret rfl rfl (.val ?_)
 exact congrArg Value.bool (by rw [hR, Bool.eq_iff_iff]; simp only [ee]; simp)
theorem P_variable (p : Pat) : PCall EE 51 [p.enc] (bool (typedF p.op)) := by
 have h1 := P_Negates p
 obtain ⟨R, hR⟩ : ∃ R, R = typedF p.op := ⟨_, rfl⟩
 rw [← hR]
 unfold typedF at hR
 have hcl := Pat.closed p
 obtain ⟨pO, pA, pT, pV, pS, pN, pCo, pCa, pCv, pCf, pCk, pXk, pXn, pXt, hx, hxc, hpO, hpA, hpT, hpV, hpS, hpN⟩ := Pat.form2 p
 rw [hx] at h1 hcl ⊢
 rw [← hpO] at hR h1
 refine wordsN ?_; unhygienic intros
 refine fn_body (fn := Tryz.f51) (n := 10) (ac := Tryzc51) (rvs := [.t 2]) rfl (by decide) Tryzp51 rfl rfl rfl ?_
 refine goA 0 ?_
 refine on_guard rfl rfl (fun c1 => ?_) (fun c1 => ?_)
 ·
  simp [ee] at c1
  refine goA 60 ?_
  refine fn_ret rfl rfl (.val ?_)
  exact congrArg Value.bool (by rw [hR]; clear ee hX; grind)
 ·
  simp [ee] at c1
  refine goA 60 ?_
  refine pcG h1 ?_
  refine goA 60 ?_
  refine fn_ret rfl rfl (.val ?_)
  exact congrArg Value.bool (by rw [hR]; clear ee hX; grind)
theorem P_condition (p : Pat) : PCall EE 74 [p.enc] (bool (condF p.op)) := by
 have h1 := P_variable p
 obtain ⟨R, hR⟩ : ∃ R, R = condF p.op := ⟨_, rfl⟩
 rw [← hR]
 have h2 : condF p.op = (typedF p.op || decide (p.op = 7)) := by unfold condF typedF; rw [Bool.eq_iff_iff]; simp; omega
 rw [h2] at hR
 generalize typedF p.op = ty at *
 have hcl := Pat.closed p
 obtain ⟨pO, pA, pT, pV, pS, pN, pCo, pCa, pCv, pCf, pCk, pXk, pXn, pXt, hx, hxc, hpO, hpA, hpT, hpV, hpS, hpN⟩ := Pat.form2 p
 rw [hx] at h1 hcl ⊢
 rw [← hpO] at hR
 refine wordsN ?_; unhygienic intros
 refine fn_body (fn := Tryz.f74) (n := 10) (ac := Tryzc74) (rvs := [.t 2]) rfl (by decide) Tryzp74 rfl rfl rfl ?_
 refine goA 60 ?_
 refine pcA h1 ?_
 refine goA 60 ?_
 refine fn_ret rfl rfl (.val ?_)
 exact congrArg Value.bool (by rw [hR]; first | (rw [Bool.eq_iff_iff]; simp only [ee]; simp; done) | (simp only [ee] at *; simp at *; simp [*]))
theorem P_bad (u : Bool) (n m : Int) : PCall EE 80 [bool u, int n, int m] (bool (u && decide (n < 0 ∨ m < n))) := by
 obtain ⟨R, hR⟩ : ∃ R, R = (u && decide (n < 0 ∨ m < n)) := ⟨_, rfl⟩
 rw [← hR]
 refine wordsN ?_; unhygienic intros
 refine fn_body (fn := Tryz.f80) (n := 17) (ac := Tryzc80) (rvs := [.t 6]) rfl (by decide) Tryzp80 rfl rfl rfl ?_
 refine goA 0 ?_
 refine nsB hX (by conv => lhs; cbv) ?_
 refine goA 60 ?_
 refine fn_ret rfl rfl (.val ?_)
 exact congrArg Value.bool (by rw [hR]; first | (rw [Bool.eq_iff_iff]; simp only [ee]; simp; done) | (simp only [ee] at *; simp at *; simp [*]))
theorem P_ref09_arity (p : Pat) (hlen : p.args.length < 1048576) : PCall EE 79 [p.enc] (bool (decide (if p.op = 0 then p.args.length = 0 else if p.op = 1 ∨ p.op = 2 ∨ p.op = 3 then 2 ≤ p.args.length else if p.op = 8 then p.args.length = 2 else p.args.length = 1))) := by
 obtain ⟨R, hR⟩ : ∃ R, R = (decide (if p.op = 0 then p.args.length = 0 else if p.op = 1 ∨ p.op = 2 ∨ p.op = 3 then 2 ≤ p.args.length else if p.op = 8 then p.args.length = 2 else p.args.length = 1)) := ⟨_, rfl⟩
 rw [← hR]
 have hcl := Pat.closed p
 obtain ⟨pO, pA, pT, pV, pS, pN, pCo, pCa, pCv, pCf, pCk, pXk, pXn, pXt, hx, hxc, hpO, hpA, hpT, hpV, hpS, hpN⟩ := Pat.form2 p
 have hel : pA.length = p.args.length := by rw [hpA, mapE_len]
 rw [hx] at hcl ⊢
 rw [← hpO] at hR
 clear hpA
 generalize p.args.length = n at *
 refine wordsN ?_; unhygienic intros
 refine fn_body (fn := Tryz.f79) (n := 29) (ac := Tryzc79) (rvs := [.t 2]) rfl (by decide) Tryzp79 rfl rfl rfl ?_
 refine goA 0 ?_
 refine on_cond rfl (fun c1 => ?_) (fun c1 => ?_)
 ·
  simp [ee] at c1
  refine goA 60 ?_
  refine fn_ret rfl rfl (.val ?_)
  exact congrArg Value.bool (by rw [hR, Bool.eq_iff_iff]; simp only [ee]; clear ee hX; simp; grind)
 ·
  simp [ee] at c1
  refine goA 0 ?_
  refine on_cond rfl (fun c2 => ?_) (fun c2 => ?_)
  ·
   simp [ee] at c2
   refine goA 0 ?_
   refine on_cond rfl (fun c3 => ?_) (fun c3 => ?_)
   ·
    simp [ee] at c3
    refine goA 60 ?_
    refine fn_ret rfl rfl (.val ?_)
    exact congrArg Value.bool (by rw [hR, Bool.eq_iff_iff]; simp only [ee]; clear ee hX; simp; grind)
   ·
    simp [ee] at c3
    refine goA 0 ?_
    refine on_cond rfl (fun c4 => ?_) (fun c4 => ?_)
    ·
     simp [ee] at c4
     refine goA 60 ?_
     refine fn_ret rfl rfl (.val ?_)
     exact congrArg Value.bool (by rw [hR, Bool.eq_iff_iff]; simp only [ee]; clear ee hX; simp; grind)
    ·
     simp [ee] at c4
     refine goA 60 ?_
     refine fn_ret rfl rfl (.val ?_)
     exact congrArg Value.bool (by rw [hR, Bool.eq_iff_iff]; simp only [ee]; clear ee hX; simp; grind)
  ·
   simp [ee] at c2
   refine goA 0 ?_
   refine on_cond rfl (fun c5 => ?_) (fun c5 => ?_)
   ·
    simp [ee] at c5
    refine goA 0 ?_
    refine on_cond rfl (fun c6 => ?_) (fun c6 => ?_)
    ·
     simp [ee] at c6
     refine goA 60 ?_
     refine fn_ret rfl rfl (.val ?_)
     exact congrArg Value.bool (by rw [hR, Bool.eq_iff_iff]; simp only [ee]; clear ee hX; simp; grind)
    ·
     simp [ee] at c6
     refine goA 0 ?_
     refine on_cond rfl (fun c7 => ?_) (fun c7 => ?_)
     ·
      simp [ee] at c7
      refine goA 60 ?_
      refine fn_ret rfl rfl (.val ?_)
      exact congrArg Value.bool (by rw [hR, Bool.eq_iff_iff]; simp only [ee]; clear ee hX; simp; grind)
     ·
      simp [ee] at c7
      refine goA 60 ?_
      refine fn_ret rfl rfl (.val ?_)
      exact congrArg Value.bool (by rw [hR, Bool.eq_iff_iff]; simp only [ee]; clear ee hX; simp; grind)
   ·
    simp [ee] at c5
    refine goA 0 ?_
    refine on_cond rfl (fun c8 => ?_) (fun c8 => ?_)
    ·
     simp [ee] at c8
     refine goA 60 ?_
     refine fn_ret rfl rfl (.val ?_)
     exact congrArg Value.bool (by rw [hR, Bool.eq_iff_iff]; simp only [ee]; clear ee hX; simp; grind)
    ·
     simp [ee] at c8
     refine goA 0 ?_
     refine on_cond rfl (fun c9 => ?_) (fun c9 => ?_)
     ·
      simp [ee] at c9
      refine goA 60 ?_
      refine fn_ret rfl rfl (.val ?_)
      exact congrArg Value.bool (by rw [hR, Bool.eq_iff_iff]; simp only [ee]; clear ee hX; simp; grind)
     ·
      simp [ee] at c9
      refine goA 60 ?_
      refine fn_ret rfl rfl (.val ?_)
      exact congrArg Value.bool (by rw [hR, Bool.eq_iff_iff]; simp only [ee]; clear ee hX; simp; grind)
end Go.Am
end
