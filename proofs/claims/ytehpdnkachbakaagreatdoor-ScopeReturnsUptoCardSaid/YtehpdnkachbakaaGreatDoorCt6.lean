/- Contracts of the program's functions, for every argument that meets the conditions that each theorem names. -/
import Derived.Test.YtehpdnkachbakaaGreatDoorAm6
import Derived.Test.YtehpdnkachbakaaGreatDoorCt5
import Derived.Test.YtehpdnkachbakaaGreatDoorCt3
import Derived.Test.YtehpdnkachbakaaGreatDoorCt2
section
set_option maxHeartbeats 16000000
set_option maxRecDepth 100000
namespace Go.Am
open Go.Proofs
theorem getD_app_lt {α : Type} {a b : List α} {k : Nat} {x : α} (h : k < a.length) : (a ++ b).getD k x = a.getD k x := by
 rw [List.getD_eq_getElem?_getD, List.getD_eq_getElem?_getD, List.getElem?_append_left h]
theorem getD_app_ge {α : Type} {a b : List α} {k : Nat} {x : α} (h : a.length ≤ k) : (a ++ b).getD k x = b.getD (k - a.length) x := by
 rw [List.getD_eq_getElem?_getD, List.getD_eq_getElem?_getD, List.getElem?_append_right h]
theorem P_ref15_at : ∀ p : Pat, p.Sm → p.wf → ∀ (l : Plc), l.ok → ∀ i : Int, 0 ≤ i → i < p.cnt → p.cnt < 1048577 → testsF ((Pat.lf l p).getD i.toNat (Pat0, Plc0)).1.op = true →
 PCall EE 44 [p.enc, int i, l.enc] (((Pat.lf l p).getD i.toNat (Pat0, Plc0)).1.own ((Pat.lf l p).getD i.toNat (Pat0, Plc0)).2).enc := by
 refine Pat.ind ?_
 intro o a t v sc n c ih hs hw l hl i hi0 hi1 hcn ht
 have hlen := hs.len
 have hih := fun q (hq : q ∈ a) => ih q hq (hs.arg hq) (hw.arg hq)
 have hwa : ∀ q ∈ a, q.wf := fun q hq => hw.arg hq
 have hsa : ∀ q ∈ a, q.Sm := fun q hq => hs.arg hq
 obtain ⟨pp, hpp⟩ : ∃ pp, pp = Pat.mk o a t v sc n c := ⟨_, rfl⟩
 rw [Pat.lf, ← hpp] at ht ⊢
 rw [Pat.cnt] at hi1 hcn
 have q0 := fun h => P_ref15_own pp (by rw [hpp]; exact hs) (by rw [hpp]; exact hw) h l hl
 have hpc := Pat.closed pp
 have hcl := Pat.closedI a
 have hcc := Ex.closed c
 have hpe : pp.enc = (Pat.mk o a t v sc n c).enc := by rw [hpp]
 obtain ⟨cO, cA, cV, cF, cK, cXk, cXn, cXt, hcx⟩ := Ex.form c
 have hpx := Pat.enc_c o a t v sc n hcx
 simp only [List.cons_append, List.nil_append] at hpx
 rw [hpx] at hpe
 rw [hpe] at q0 hpc ⊢
 rw [hcx] at hcc
 have hcaI : (AV.isl 8 cA).closed = true := by have := hcc; simp [AV.closed, AV.closedL] at this ⊢; exact this
 have hLU := closedI_int l.us
 have hLS := closedI_int l.si
 have hlc := l.closed
 simp only [Plc.enc] at q0 hlc ⊢
 obtain ⟨LU, eLU⟩ : ∃ z, z = mapE int l.us := ⟨_, rfl⟩
 obtain ⟨LS, eLS⟩ : ∃ z, z = mapE int l.si := ⟨_, rfl⟩
 obtain ⟨fb, efb⟩ : ∃ z, z = l.fb := ⟨_, rfl⟩
 rw [← eLU, ← eLS, ← efb] at q0 hlc ⊢
 rw [← eLU] at hLU
 rw [← eLS] at hLS
 clear ih hs hw hpx hcx
 refine wordsN ?_; unhygienic intros
 by_cases h0 : i = 0
 · subst h0
   have hGX : ((pp, l) :: Pat.lfL (decide (o = 1)) l a).getD (0 : Int).toNat (Pat0, Plc0) = (pp, l) := rfl
   rw [hGX] at ht ⊢
   have q1 := q0 ht
   dsimp only at q1 ⊢
   have r1 := closedI_int (pp.own l).us
   have r2 := closedI_int (pp.own l).si
   generalize mapE int (pp.own l).us = A1 at *
   generalize mapE int (pp.own l).si = A2 at *
   generalize (pp.own l).fb = f2 at *
   clear hpe hpp hih hwa hsa
   generalize mapE Pat.enc a = es at *
   have k0 : iEq 0 0 = true := by simp only [ee]; rfl
   refine fn_body (fn := Tryz.f44) (n := 67) (ac := Tryzc44) (rvs := [.cell 6 3 true]) rfl (by decide) Tryzp44 rfl rfl rfl ?_
   refine goB hX 0 (by conv => lhs; cbv; try simp only [k0]; cbv; try simp only [k0]; cbv; try simp only [k0]; cbv; try simp only [k0]; cbv) ?_
   refine goA 60 ?_
   refine Go.Am.pcA q1 ?_
   refine goA 60 ?_
   refine fn_ret rfl rfl ?_
   exact ⟨[.gone, .gone, .gone], ⟨trivial, trivial, trivial, trivial⟩, .agg' ⟨.cl r1, .cl r2, .refl _, trivial⟩⟩
 have hGX : ((pp, l) :: Pat.lfL (decide (o = 1)) l a).getD i.toNat (Pat0, Plc0) = (Pat.lfL (decide (o = 1)) l a).getD (i - 1).toNat (Pat0, Plc0) := by
  rw [show i.toNat = (i - 1).toNat + 1 by omega, List.getD_cons_succ]
 rw [hGX] at ht ⊢
 obtain ⟨X, eX⟩ : ∃ X, X = (Pat.lfL (decide (o = 1)) l a).getD (i - 1).toNat (Pat0, Plc0) := ⟨_, rfl⟩
 rw [← eX] at ht ⊢
 have hih2 : ∀ q ∈ a, ∀ (l2 : Plc), l2.ok → ∀ j : Int, 0 ≤ j → j < q.cnt → q.cnt < 1048577 → X = (Pat.lf l2 q).getD j.toNat (Pat0, Plc0) → PCall EE 44 [q.enc, int j, l2.enc] (X.1.own X.2).enc := fun q hq l2 h2 j hj0 hj1 hc hx => by
  have := hih q hq l2 h2 j hj0 hj1 hc (by rw [← hx]; exact ht)
  rw [← hx] at this
  exact this
 simp only [Plc.enc] at hih2
 have r1 := closedI_int (X.1.own X.2).us
 have r2 := closedI_int (X.1.own X.2).si
 generalize mapE int (X.1.own X.2).us = A1 at *
 generalize mapE int (X.1.own X.2).si = A2 at *
 generalize (X.1.own X.2).fb = f2 at *
 clear hih q0 ht hGX hpp hpe
 generalize hes : mapE Pat.enc a = es at *
 have hel : es.length = a.length := by rw [← hes, mapE_len]
 have k0 : iEq i 0 = false := by simp only [ee]; simpa using h0
 have ks : iSub .i64 i 1 = i - 1 := sub_w e_iSub (by omega) (by omega)
 obtain ⟨i1, ei1⟩ : ∃ z, z = i - 1 := ⟨_, rfl⟩
 rw [← ei1] at ks eX
 refine fn_body (fn := Tryz.f44) (n := 67) (ac := Tryzc44) (rvs := [.cell 6 3 true]) rfl (by decide) Tryzp44 rfl rfl rfl ?_
 refine goB hX 0 (by conv => lhs; cbv; try simp only [k0, ks]; cbv; try simp only [k0, ks]; cbv; try simp only [k0, ks]; cbv; try simp only [k0, ks]; cbv) ?_
 refine goA 60 ?_
 refine on_loopP (ι := List Pat × List Pat × Int × Int × Plc × List AV × List AV × Int) (fun p => ([(7, int p.2.2.1), (1, int p.2.2.2.1), (3, .ptr 0 0), (5, .ptr 1 0), (6, .ptr 2 0)], [.cells [int o, .isl 14 es, int t, int v, int sc, int n, int cO, .isl 8 cA, int cV, int cF, int cK, int cXk, int cXn, str cXt], .cells [.isl 1 p.2.2.2.2.2.1, .isl 1 p.2.2.2.2.2.2.1, int p.2.2.2.2.2.2.2], .cells [.val (.slice none 0 0), .val (.slice none 0 0), int 0]])) (fun p => a = p.1 ++ p.2.1 ∧ p.2.2.1 = p.1.length ∧ p.2.2.2.2.1.ok ∧ 0 ≤ p.2.2.2.1 ∧ p.2.2.2.1 < Pat.cntL p.2.1 ∧ Pat.cntL p.2.1 < 1048577 ∧ X = (Pat.lfL (decide (o = 1)) p.2.2.2.2.1 p.2.1).getD p.2.2.2.1.toNat (Pat0, Plc0) ∧ p.2.2.2.2.2.1 = mapE int p.2.2.2.2.1.us ∧ p.2.2.2.2.2.2.1 = mapE int p.2.2.2.2.1.si ∧ p.2.2.2.2.2.2.2 = p.2.2.2.2.1.fb) (fun p => p.2.1.length) ([], a, 0, i1, l, LU, LS, fb) ⟨rfl, rfl, hl, (by show 0 ≤ i1; omega), (by show i1 < (Pat.cntL a : Int); omega), (by show Pat.cntL a < 1048577; omega), eX, eLU, eLS, efb⟩ ?_ ?_
 · exact (ent_sub [.to 0, .to 1, .to 2] [some 0, some 1, some 2] ⟨⟨by simp, rfl⟩, ⟨by simp, rfl⟩, ⟨by simp, rfl⟩, trivial⟩ ⟨osrc_cells (b := 0) rfl rfl rfl ⟨.refl _, .cl hcl, .refl _, .refl _, .refl _, .refl _, .refl _, .cl hcaI, .refl _, .refl _, .refl _, .refl _, .refl _, .refl _, trivial⟩, osrc_cells (b := 1) rfl rfl rfl ⟨.cl hLU, .cl hLS, .refl _, trivial⟩, osrc_cells (b := 2) rfl rfl rfl ⟨.refl _, .refl _, .refl _, trivial⟩, trivial⟩ ⟨.refl _, .of (congrArg int (by assumption)), .refl _, .refl _, .refl _, trivial⟩)
 rintro ⟨d, r, k, j, l2, LU2, LS2, fb2⟩ ⟨g1, gk, gl, g0, gj, gc, gX, gU, gS, gf⟩
 dsimp only at g1 gk gl g0 gj gc gX gU gS gf ⊢
 cases r with
 | nil => rw [Pat.cntL] at gj; omega
 | cons q r =>
  have L1 := len_split g1
  try simp only [List.length] at L1
  have hc : iLt k (lenA es) = true := lt_t e_iLt e_lenA (by omega)
  have hat := el_at e_atA hes g1 gk
  have hqm : q ∈ a := by rw [g1]; simp
  have hqw := hwa q hqm
  have hqs := hsa q hqm
  have hqc := Pat.closed q
  rw [Pat.cntL] at gj gc
  have hU2 : (AV.isl 1 LU2).closed = true := by rw [gU]; exact closedI_int _
  have hS2 : (AV.isl 1 LS2).closed = true := by rw [gS]; exact closedI_int _
  have hl2c : (AV.agg [.isl 1 LU2, .isl 1 LS2, int fb2]).closed = true := by simp [AV.closed, AV.closedL] at hU2 hS2 ⊢; exact ⟨hU2, hS2⟩
  have hk2 : iAdd .i64 k 1 = ((d ++ [q]).length : Int) := by rw [List.length_append]; exact inc_w e_iAdd gk (by omega)
  have q1 := P_ref09_Nodes q hqs
  have hnc := Pat.closedI q.nodes
  obtain ⟨m, em⟩ : ∃ m : Int, m = (q.cnt : Int) := ⟨_, rfl⟩
  have km : lenA (mapE Pat.enc q.nodes) = m := by simp only [ee]; rw [em, ← q.nodes_len, ← mapE_len Pat.enc q.nodes]
  generalize mapE Pat.enc q.nodes = ns at *
  rw [Pat.lfL] at gX
  have hll : (Pat.lf l2 q).length = q.cnt := Pat.lf_len q l2
  by_cases hj : j < m
  · have kj : iLt j m = true := by simp only [ee]; simpa using hj
    rw [getD_app_lt (by omega)] at gX
    have q2 := hih2 q hqm l2 gl j g0 (by omega) (by omega) gX
    rw [← gU, ← gS, ← gf] at q2
    obtain ⟨qO, qA, qT, qV, qS, qN, qCo, qCa, qCv, qCf, qCk, qXk, qXn, qXt, hxq⟩ := Pat.form q
    rw [hxq] at hat hqc q1 q2
    refine goB hX 0 (by conv => lhs; cbv; try simp only [hc, hat, km, kj]; cbv; try simp only [hc, hat, km, kj]; cbv; try simp only [hc, hat, km, kj]; cbv; try simp only [hc, hat, km, kj]; cbv) ?_
    refine goB hX 1 (by conv => lhs; cbv; try simp only [hc, hat, km, kj]; cbv; try simp only [hc, hat, km, kj]; cbv; try simp only [hc, hat, km, kj]; cbv; try simp only [hc, hat, km, kj]; cbv) ?_
    refine Go.Am.pcA q1 ?_
    refine goB hX 0 (by conv => lhs; cbv; try simp only [hc, hat, km, kj]; cbv; try simp only [hc, hat, km, kj]; cbv; try simp only [hc, hat, km, kj]; cbv; try simp only [hc, hat, km, kj]; cbv) ?_
    refine goB hX 1 (by conv => lhs; cbv; try simp only [hc, hat, km, kj]; cbv; try simp only [hc, hat, km, kj]; cbv; try simp only [hc, hat, km, kj]; cbv; try simp only [hc, hat, km, kj]; cbv) ?_
    refine tr_drawB rfl (by conv => lhs; cbv) rfl ?_
    refine tgB hX (by conv => lhs; cbv; try simp only [hc, hat, km, kj]; cbv; try simp only [hc, hat, km, kj]; cbv; try simp only [hc, hat, km, kj]; cbv; try simp only [hc, hat, km, kj]; cbv) ?_
    refine Go.Am.pcT q2 ?_
    refine tgA ?_
    refine tr_nil ⟨rfl, by simp [LooksL, lookAll], ?_⟩
    refine goA 60 ?_
    refine loopP_ret ?_
    refine goA 60 ?_
    refine fn_ret rfl rfl ?_
    exact ⟨[.gone, .gone, .gone], ⟨trivial, trivial, trivial, trivial⟩, .agg' ⟨.cl r1, .cl r2, .refl _, trivial⟩⟩
  · have kj : iLt j m = false := by simp only [ee]; simpa using hj
    have kd : iSub .i64 j m = j - m := sub_w e_iSub (by omega) (by omega)
    obtain ⟨j2, ej2⟩ : ∃ z, z = j - m := ⟨_, rfl⟩
    rw [← ej2] at kd
    rw [getD_app_ge (by omega), show j.toNat - (Pat.lf l2 q).length = j2.toNat by omega] at gX
    by_cases ho1 : o = 1
    · have k1 : iEq o 1 = true := by simp only [ee]; simpa using ho1
      rw [decide_eq_true ho1, if_pos rfl] at gX
      have q3 := P_ref09_Bound q hqs
      have q4 := P_ref15_union l2.us q.bound gl.1 (bound_vr hqw) (by have := gl.2.2.1; omega) (by have := bound_len hqw; omega)
      have q5 := P_ref15_Ones q hqs hqw
      have q6 := P_ref15_union l2.si q.ones gl.2.1 (ones_spec q hqw).2 (by have := gl.2.2.2; omega) (by have := ones_len hqw; omega)
      rw [← gU] at q4
      rw [← gS] at q6
      have s1 := closedI_int q.bound
      have s2 := closedI_int q.ones
      have s3 := closedI_int (uniI l2.us q.bound)
      have s4 := closedI_int (uniI l2.si q.ones)
      have gU3 : mapE int (uniI l2.us q.bound) = mapE int (l2.plus q).us := rfl
      have gS3 : mapE int (uniI l2.si q.ones) = mapE int (l2.plus q).si := rfl
      have gf3 : (-1 : Int) = (l2.plus q).fb := rfl
      have gl3 := gl.plus hqw
      generalize mapE int q.bound = B1 at *
      generalize mapE int q.ones = B2 at *
      generalize mapE int (uniI l2.us q.bound) = U3 at *
      generalize mapE int (uniI l2.si q.ones) = S3 at *
      obtain ⟨qO, qA, qT, qV, qS, qN, qCo, qCa, qCv, qCf, qCk, qXk, qXn, qXt, hxq⟩ := Pat.form q
      rw [hxq] at hat hqc q1 q3 q5
      refine goB hX 0 (by conv => lhs; cbv; try simp only [hc, hat, km, kj, kd, k1]; cbv; try simp only [hc, hat, km, kj, kd, k1]; cbv; try simp only [hc, hat, km, kj, kd, k1]; cbv; try simp only [hc, hat, km, kj, kd, k1]; cbv) ?_
      refine goB hX 1 (by conv => lhs; cbv; try simp only [hc, hat, km, kj, kd, k1]; cbv; try simp only [hc, hat, km, kj, kd, k1]; cbv; try simp only [hc, hat, km, kj, kd, k1]; cbv; try simp only [hc, hat, km, kj, kd, k1]; cbv) ?_
      refine Go.Am.pcA q1 ?_
      refine goB hX 0 (by conv => lhs; cbv; try simp only [hc, hat, km, kj, kd, k1]; cbv; try simp only [hc, hat, km, kj, kd, k1]; cbv; try simp only [hc, hat, km, kj, kd, k1]; cbv; try simp only [hc, hat, km, kj, kd, k1]; cbv) ?_
      refine goB hX 1 (by conv => lhs; cbv; try simp only [hc, hat, km, kj, kd, k1]; cbv; try simp only [hc, hat, km, kj, kd, k1]; cbv; try simp only [hc, hat, km, kj, kd, k1]; cbv; try simp only [hc, hat, km, kj, kd, k1]; cbv) ?_
      refine goB hX 1 (by conv => lhs; cbv; try simp only [hc, hat, km, kj, kd, k1]; cbv; try simp only [hc, hat, km, kj, kd, k1]; cbv; try simp only [hc, hat, km, kj, kd, k1]; cbv; try simp only [hc, hat, km, kj, kd, k1]; cbv) ?_
      refine tr_drawB rfl (by conv => lhs; cbv) rfl ?_
      refine tgB hX (by conv => lhs; cbv; try simp only [hc, hat, km, kj, kd, k1]; cbv; try simp only [hc, hat, km, kj, kd, k1]; cbv; try simp only [hc, hat, km, kj, kd, k1]; cbv; try simp only [hc, hat, km, kj, kd, k1]; cbv) ?_
      refine Go.Am.pcT q3 ?_
      refine Go.Am.pcT q4 ?_
      refine tgB hX (by conv => lhs; cbv; try simp only [hc, hat, km, kj, kd, k1]; cbv; try simp only [hc, hat, km, kj, kd, k1]; cbv; try simp only [hc, hat, km, kj, kd, k1]; cbv; try simp only [hc, hat, km, kj, kd, k1]; cbv) ?_
      refine Go.Am.pcT q5 ?_
      refine Go.Am.pcT q6 ?_
      refine tgA ?_
      refine tr_nil ⟨rfl, ?_, ?_⟩
      · simp only [LooksL, lookAll, List.cons_append, List.nil_append, List.append_nil]; and_intros <;> first | trivial | (intro hp; first | rfl | exact absurd (show false = true from hp) Bool.false_ne_true)
      refine goA 60 ?_
      refine loopP_next (d ++ [q], r, iAdd .i64 k 1, j2, l2.plus q, U3, S3, -1) ⟨by simp [g1], hk2, gl3, (by show 0 ≤ j2; omega), (by show j2 < (Pat.cntL r : Int); omega), (by show Pat.cntL r < 1048577; omega), (by rw [decide_eq_true ho1]; exact gX), gU3, gS3, gf3⟩ (by simp) (ent_sub [.to 0, .to 1, .to 2] [some 0, some 1, some 2] ⟨⟨by simp, rfl⟩, ⟨by simp, rfl⟩, ⟨by simp, rfl⟩, trivial⟩ ⟨osrc_cells (b := 0) rfl rfl rfl ⟨.refl _, .cl hcl, .refl _, .refl _, .refl _, .refl _, .refl _, .cl hcaI, .refl _, .refl _, .refl _, .refl _, .refl _, .refl _, trivial⟩, osrc_cells (b := 1) rfl rfl rfl ⟨.cl s3, .cl s4, .refl _, trivial⟩, osrc_cells (b := 2) rfl rfl rfl ⟨.refl _, .refl _, .refl _, trivial⟩, trivial⟩ ⟨.refl _, .refl _, .refl _, .refl _, .refl _, trivial⟩)
    · have k1 : iEq o 1 = false := by simp only [ee]; simpa using ho1
      rw [decide_eq_false ho1, if_neg (show ¬ (false = true) by decide)] at gX
      obtain ⟨qO, qA, qT, qV, qS, qN, qCo, qCa, qCv, qCf, qCk, qXk, qXn, qXt, hxq⟩ := Pat.form q
      rw [hxq] at hat hqc q1
      refine goB hX 0 (by conv => lhs; cbv; try simp only [hc, hat, km, kj, kd, k1]; cbv; try simp only [hc, hat, km, kj, kd, k1]; cbv; try simp only [hc, hat, km, kj, kd, k1]; cbv; try simp only [hc, hat, km, kj, kd, k1]; cbv) ?_
      refine goB hX 1 (by conv => lhs; cbv; try simp only [hc, hat, km, kj, kd, k1]; cbv; try simp only [hc, hat, km, kj, kd, k1]; cbv; try simp only [hc, hat, km, kj, kd, k1]; cbv; try simp only [hc, hat, km, kj, kd, k1]; cbv) ?_
      refine Go.Am.pcA q1 ?_
      refine goB hX 0 (by conv => lhs; cbv; try simp only [hc, hat, km, kj, kd, k1]; cbv; try simp only [hc, hat, km, kj, kd, k1]; cbv; try simp only [hc, hat, km, kj, kd, k1]; cbv; try simp only [hc, hat, km, kj, kd, k1]; cbv) ?_
      refine goB hX 1 (by conv => lhs; cbv; try simp only [hc, hat, km, kj, kd, k1]; cbv; try simp only [hc, hat, km, kj, kd, k1]; cbv; try simp only [hc, hat, km, kj, kd, k1]; cbv; try simp only [hc, hat, km, kj, kd, k1]; cbv) ?_
      refine goA 60 ?_
      refine loopP_next (d ++ [q], r, iAdd .i64 k 1, j2, l2, LU2, LS2, fb2) ⟨by simp [g1], hk2, gl, (by show 0 ≤ j2; omega), (by show j2 < (Pat.cntL r : Int); omega), (by show Pat.cntL r < 1048577; omega), (by rw [decide_eq_false ho1]; exact gX), gU, gS, gf⟩ (by simp) (ent_sub [.to 0, .to 1, .to 2] [some 0, some 1, some 2] ⟨⟨by simp, rfl⟩, ⟨by simp, rfl⟩, ⟨by simp, rfl⟩, trivial⟩ ⟨osrc_cells (b := 0) rfl rfl rfl ⟨.refl _, .cl hcl, .refl _, .refl _, .refl _, .refl _, .refl _, .cl hcaI, .refl _, .refl _, .refl _, .refl _, .refl _, .refl _, trivial⟩, osrc_cells (b := 1) rfl rfl rfl ⟨.cl hU2, .cl hS2, .refl _, trivial⟩, osrc_cells (b := 2) rfl rfl rfl ⟨.refl _, .refl _, .refl _, trivial⟩, trivial⟩ ⟨.refl _, .refl _, .refl _, .refl _, .refl _, trivial⟩)
open Classical in
theorem nodeE_red (p : Pat) (hl : p.args.length ≤ 64) : p.nodeE = (if p.op < 0 ∨ 10 < p.op then 1 else if ¬ (if p.op = 0 then p.args.length = 0 else if p.op = 1 ∨ p.op = 2 ∨ p.op = 3 then 2 ≤ p.args.length else if p.op = 8 then p.args.length = 2 else p.args.length = 1) then 15
 else if (typedF p.op && decide (p.ty < 0 ∨ 15 < p.ty)) = true ∨ (typedF p.op && decide (p.var < 0 ∨ 15 < p.var)) = true ∨ (scopeF p.op && decide (p.scope < 0 ∨ 63 < p.scope)) = true ∨ (spanF p.op && decide (p.span < 0 ∨ 1099511627776 < p.span)) = true then 2
 else if condF p.op = true ∧ p.cond.chk ≠ 0 then p.cond.chk
 else if (typedF p.op = false ∧ (p.ty ≠ 0 ∨ p.var ≠ 0)) ∨ (scopeF p.op = false ∧ p.scope ≠ 0) ∨ (spanF p.op = false ∧ p.span ≠ 0) ∨ (condF p.op = false ∧ p.cond ≠ Ex0) then 3 else 0) := by
 unfold Pat.nodeE
 by_cases h1 : p.op < 0 ∨ 11 ≤ p.op
 · rw [if_pos h1, if_pos (show p.op < 0 ∨ 10 < p.op by omega)]
 rw [if_neg h1, if_neg (show ¬ (p.op < 0 ∨ 10 < p.op) by omega)]
 have h2 : ((p.args.length : Int) < leastF p.op ∨ mostF p.op < p.args.length) ↔ ¬ (if p.op = 0 then p.args.length = 0 else if p.op = 1 ∨ p.op = 2 ∨ p.op = 3 then 2 ≤ p.args.length else if p.op = 8 then p.args.length = 2 else p.args.length = 1) := by
  unfold leastF mostF
  (repeat' split) <;> omega
 by_cases h3 : (p.args.length : Int) < leastF p.op ∨ mostF p.op < p.args.length
 · rw [if_pos h3, if_pos (h2.1 h3)]
 rw [if_neg h3, if_neg (fun h => h3 (h2.2 h))]
 have h4 : ((typedF p.op && decide (p.ty < 0 ∨ 15 < p.ty)) = true ∨ (typedF p.op && decide (p.var < 0 ∨ 15 < p.var)) = true ∨ (scopeF p.op && decide (p.scope < 0 ∨ 63 < p.scope)) = true ∨ (spanF p.op && decide (p.span < 0 ∨ 1099511627776 < p.span)) = true) ↔
  (typedF p.op = true ∧ (p.ty < 0 ∨ 15 < p.ty ∨ p.var < 0 ∨ 15 < p.var)) ∨ (scopeF p.op = true ∧ (p.scope < 0 ∨ 63 < p.scope)) ∨ (spanF p.op = true ∧ (p.span < 0 ∨ 1099511627776 < p.span)) := by
  cases typedF p.op <;> cases scopeF p.op <;> cases spanF p.op <;> simp <;> omega
 by_cases h5 : (typedF p.op = true ∧ (p.ty < 0 ∨ 15 < p.ty ∨ p.var < 0 ∨ 15 < p.var)) ∨ (scopeF p.op = true ∧ (p.scope < 0 ∨ 63 < p.scope)) ∨ (spanF p.op = true ∧ (p.span < 0 ∨ 1099511627776 < p.span))
 · rw [if_pos h5, if_pos (h4.2 h5)]
 rw [if_neg h5, if_neg (fun h => h5 (h4.1 h))]
 by_cases h6 : condF p.op = true ∧ p.cond.chk ≠ 0
 · rw [if_pos h6, if_pos h6]
 rw [if_neg h6, if_neg h6]
 by_cases h7 : (condF p.op = false ∧ p.cond ≠ Ex0) ∨ (typedF p.op = false ∧ (p.ty ≠ 0 ∨ p.var ≠ 0)) ∨ (scopeF p.op = false ∧ p.scope ≠ 0) ∨ (spanF p.op = false ∧ p.span ≠ 0)
 · rw [if_pos h7]
   refine (if_pos ?_).symm
   rcases h7 with h | h | h | h
   · exact .inr (.inr (.inr h))
   · exact .inl h
   · exact .inr (.inl h)
   · exact .inr (.inr (.inl h))
 · rw [if_neg h7]
   refine (if_neg ?_).symm
   rintro (h | h | h | h)
   · exact h7 (.inr (.inl h))
   · exact h7 (.inr (.inr (.inl h)))
   · exact h7 (.inr (.inr (.inr h)))
   · exact h7 (.inl h)
theorem P_ref09_node (p : Pat) (hs : p.Sm) (hlen : p.args.length ≤ 64) : PCall EE 70 [p.enc] (int p.nodeE) := by
 have h1 := P_ref09_arity p (by omega)
 have h2 := P_variable p
 have h3 := P_Negates p
 have h4 := P_Times p
 have h5 := P_condition p
 have h6 := P_ref08_Check p.cond hs.cond'
 have h7 := P_ref08_Same p.cond Ex0 hs.cond'
 rw [Ex0.form] at h7
 have hsc : scopeF p.op = (decide (p.op = 5 ∨ p.op = 9) || spanF p.op) := by unfold scopeF spanF; rw [Bool.eq_iff_iff]; simp; omega
 obtain ⟨R, hR⟩ : ∃ R, R = p.nodeE := ⟨_, rfl⟩
 rw [← hR]
 have hb : p.cond ≠ Ex0 ↔ eqB p.cond Ex0 = false := ⟨fun h => eqB_f h, fun h e => (by rw [eqB_t e] at h; cases h)⟩
 rw [nodeE_red p hlen, hsc] at hR
 simp only [hb] at hR
 clear hb
 have hcl := Pat.closed p
 have hccl := Ex.closed p.cond
 generalize hab : (decide (if p.op = 0 then p.args.length = 0 else if p.op = 1 ∨ p.op = 2 ∨ p.op = 3 then 2 ≤ p.args.length else if p.op = 8 then p.args.length = 2 else p.args.length = 1)) = ab at *
 have hab2 : (if p.op = 0 then p.args.length = 0 else if p.op = 1 ∨ p.op = 2 ∨ p.op = 3 then 2 ≤ p.args.length else if p.op = 8 then p.args.length = 2 else p.args.length = 1) ↔ ab = true := by rw [← hab]; simp
 simp only [hab2] at hR
 clear hab hab2 hsc
 have hco : (typedF p.op = true ∧ decide (p.op = 5 ∨ p.op = 9) = false ∧ spanF p.op = false ∧ condF p.op = true) ∨ (typedF p.op = true ∧ decide (p.op = 5 ∨ p.op = 9) = true ∧ spanF p.op = false ∧ condF p.op = true) ∨ (typedF p.op = false ∧ decide (p.op = 5 ∨ p.op = 9) = false ∧ spanF p.op = true ∧ condF p.op = false) ∨
  (typedF p.op = false ∧ decide (p.op = 5 ∨ p.op = 9) = false ∧ spanF p.op = false ∧ condF p.op = true) ∨ (typedF p.op = false ∧ decide (p.op = 5 ∨ p.op = 9) = false ∧ spanF p.op = false ∧ condF p.op = false) := by
  unfold typedF spanF condF
  simp only [decide_eq_true_eq, decide_eq_false_iff_not]
  omega
 generalize typedF p.op = ty at *
 generalize decide (p.op = 5 ∨ p.op = 9) = ng at *
 generalize spanF p.op = sp at *
 generalize condF p.op = cd at *
 generalize eqB p.cond Ex0 = eq at *
 generalize p.cond.chk = ck at *
 obtain ⟨pO, pA, pT, pV, pS, pN, pCo, pCa, pCv, pCf, pCk, pXk, pXn, pXt, hx, hxc, hpO, hpA, hpT, hpV, hpS, hpN⟩ := Pat.form2 p
 rw [hx] at h1 h2 h3 h4 h5 hcl ⊢
 rw [hxc] at h6 h7 hccl
 rw [← hpO, ← hpT, ← hpV, ← hpS, ← hpN] at hR
 have b1 := P_bad ty pT 15
 have b2 := P_bad ty pV 15
 have b3t := P_bad true pS 63
 have b3f := P_bad false pS 63
 have b4 := P_bad sp pN 1099511627776
 generalize decide (pT < 0 ∨ 15 < pT) = d1 at *
 generalize decide (pV < 0 ∨ 15 < pV) = d2 at *
 generalize decide (pS < 0 ∨ 63 < pS) = d3 at *
 generalize decide (pN < 0 ∨ 1099511627776 < pN) = d4 at *
 clear hpO hpA hpT hpV hpS hpN hx hxc hs hlen
 refine wordsN ?_; unhygienic intros
 refine fn_body (fn := Tryz.f70) (n := 100) (ac := Tryzc70) (rvs := [.t 2]) rfl (by decide) Tryzp70 rfl rfl rfl ?_
 rcases hco with ⟨rfl, rfl, rfl, rfl⟩ | ⟨rfl, rfl, rfl, rfl⟩ | ⟨rfl, rfl, rfl, rfl⟩ | ⟨rfl, rfl, rfl, rfl⟩ | ⟨rfl, rfl, rfl, rfl⟩
 ·
  refine goA 0 ?_
  refine on_cond rfl (fun c1 => ?_) (fun c1 => ?_)
  ·
   simp [ee] at c1
   refine goA 60 ?_
   refine fn_ret rfl rfl (.val ?_)
   exact congrArg (Value.int .i64) (by rw [hR]; clear ee hX; grind)
  ·
   simp [ee] at c1
   refine goA 60 ?_
   refine Go.Am.pcA h1 ?_
   refine goA 0 ?_
   refine on_cond rfl (fun c2 => ?_) (fun c2 => ?_)
   ·
    simp [ee] at c2
    refine goA 60 ?_
    refine fn_ret rfl rfl (.val ?_)
    exact congrArg (Value.int .i64) (by rw [hR]; clear ee hX; grind)
   ·
    simp [ee] at c2
    refine goA 60 ?_
    refine tr_drawB rfl (by conv => lhs; cbv) rfl ?_
    refine tgA ?_
    refine Go.Am.pcT h2 ?_
    refine tgA ?_
    refine Go.Am.pcT h3 ?_
    refine tgA ?_
    refine tr_ung rfl ?_
    refine tgA ?_
    refine tr_ung rfl ?_
    refine Go.Am.pcT h4 ?_
    refine tgA ?_
    refine Go.Am.pcT h5 ?_
    refine tgA ?_
    refine tr_nil ⟨rfl, by simp [LooksL, lookAll], ?_⟩
    refine goA 60 ?_
    refine tr_drawB rfl (by conv => lhs; cbv) rfl ?_
    refine tgA ?_
    refine Go.Am.pcT b1 ?_
    refine tgA ?_
    cases d1
    ·
     refine tr_ung rfl ?_
     refine tgA ?_
     refine tr_ung rfl ?_
     refine tgA ?_
     refine tr_ung rfl ?_
     refine tgA ?_
     refine tr_ung rfl ?_
     refine Go.Am.pcT b2 ?_
     refine tgA ?_
     cases d2
     ·
      refine tr_ung rfl ?_
      refine tgA ?_
      refine tr_ung rfl ?_
      refine tgA ?_
      refine tr_ung rfl ?_
      refine tgA ?_
      refine tr_ung rfl ?_
      refine Go.Am.pcT b3f ?_
      refine tgA ?_
      refine tr_ung rfl ?_
      refine tgA ?_
      refine tr_ung rfl ?_
      refine Go.Am.pcT h4 ?_
      refine tr_ung rfl ?_
      refine tgA ?_
      refine tr_ung rfl ?_
      refine tgA ?_
      refine tr_ung rfl ?_
      refine Go.Am.pcT b4 ?_
      refine tgA ?_
      refine tr_nil ⟨rfl, by simp [LooksL, lookAll], ?_⟩
      refine goA 60 ?_
      refine Go.Am.pcA h6 ?_
      refine goA 0 ?_
      refine on_cond rfl (fun c3 => ?_) (fun c3 => ?_)
      ·
       simp [ee] at c3
       refine goA 60 ?_
       refine fn_ret rfl rfl (.val ?_)
       exact congrArg (Value.int .i64) (by rw [hR]; clear ee hX; grind)
      ·
       simp [ee] at c3
       refine goA 0 ?_
       refine nsB hX (by conv => lhs; cbv) ?_
       refine goA 0 ?_
       refine nsB hX (by conv => lhs; cbv) ?_
       refine goA 0 ?_
       refine on_guard rfl rfl (fun c4 => ?_) (fun c4 => ?_)
       ·
        simp [ee] at c4
        refine goA 60 ?_
        refine on_gskip rfl rfl ?_
        refine goA 60 ?_
        refine on_gskip rfl rfl ?_
        refine goA 60 ?_
        refine fn_ret rfl rfl (.val ?_)
        exact congrArg (Value.int .i64) (by rw [hR]; clear ee hX; grind)
       ·
        simp [ee] at c4
        refine goA 60 ?_
        refine Go.Am.pcG h4 ?_
        refine goA 0 ?_
        refine goA 1 ?_
        refine goA 1 ?_
        refine nsB hX (by conv => lhs; cbv) ?_
        refine goA 0 ?_
        refine on_guard rfl rfl (fun c5 => ?_) (fun c5 => ?_)
        ·
         simp [ee] at c5
         refine goA 60 ?_
         refine on_gskip rfl rfl ?_
         refine goA 60 ?_
         refine fn_ret rfl rfl (.val ?_)
         exact congrArg (Value.int .i64) (by rw [hR]; clear ee hX; grind)
        ·
         simp [ee] at c5
         refine goA 1 ?_
         refine goA 1 ?_
         refine goA 1 ?_
         refine on_guard rfl rfl (fun c6 => ?_) (fun c6 => ?_)
         ·
          simp [ee] at c6
         ·
          simp [ee] at c6
          refine goA 1 ?_
          refine goA 1 ?_
          refine goA 1 ?_
          refine goA 1 ?_
          refine goA 1 ?_
          refine on_cond rfl (fun c7 => ?_) (fun c7 => ?_)
          ·
           simp [ee] at c7
          ·
           simp [ee] at c7
           refine goA 60 ?_
           refine fn_ret rfl rfl (.val ?_)
           exact congrArg (Value.int .i64) (by rw [hR]; clear ee hX; grind)
     ·
      refine tr_skipq (.inl rfl) ?_
      refine tr_skipq (.inl rfl) ?_
      refine tr_skipq (.inl rfl) ?_
      refine tr_skipq (.inl rfl) ?_
      refine tgA ?_
      refine tr_skipq (.inl rfl) ?_
      refine tr_skipq (.inl rfl) ?_
      refine tr_skipq (.inl rfl) ?_
      refine tr_skipq (.inl rfl) ?_
      refine tr_skipq (.inl rfl) ?_
      refine tgA ?_
      refine tr_nil ⟨rfl, by simp [LooksL, lookAll], ?_⟩
      refine goA 60 ?_
      refine fn_ret rfl rfl (.val ?_)
      exact congrArg (Value.int .i64) (by rw [hR]; clear ee hX; grind)
    ·
     refine tr_skipq (.inl rfl) ?_
     refine tr_skipq (.inl rfl) ?_
     refine tr_skipq (.inl rfl) ?_
     refine tr_skipq (.inl rfl) ?_
     refine tgA ?_
     refine tr_skipq (.inl rfl) ?_
     refine tr_skipq (.inl rfl) ?_
     refine tr_skipq (.inl rfl) ?_
     refine tr_skipq (.inl rfl) ?_
     refine tgA ?_
     refine tr_skipq (.inl rfl) ?_
     refine tr_skipq (.inl rfl) ?_
     refine tr_skipq (.inl rfl) ?_
     refine tr_skipq (.inl rfl) ?_
     refine tr_skipq (.inl rfl) ?_
     refine tgA ?_
     refine tr_nil ⟨rfl, by simp [LooksL, lookAll], ?_⟩
     refine goA 60 ?_
     refine fn_ret rfl rfl (.val ?_)
     exact congrArg (Value.int .i64) (by rw [hR]; clear ee hX; grind)
 ·
  refine goA 0 ?_
  refine on_cond rfl (fun c1 => ?_) (fun c1 => ?_)
  ·
   simp [ee] at c1
   refine goA 60 ?_
   refine fn_ret rfl rfl (.val ?_)
   exact congrArg (Value.int .i64) (by rw [hR]; clear ee hX; grind)
  ·
   simp [ee] at c1
   refine goA 60 ?_
   refine Go.Am.pcA h1 ?_
   refine goA 0 ?_
   refine on_cond rfl (fun c2 => ?_) (fun c2 => ?_)
   ·
    simp [ee] at c2
    refine goA 60 ?_
    refine fn_ret rfl rfl (.val ?_)
    exact congrArg (Value.int .i64) (by rw [hR]; clear ee hX; grind)
   ·
    simp [ee] at c2
    refine goA 60 ?_
    refine tr_drawB rfl (by conv => lhs; cbv) rfl ?_
    refine tgA ?_
    refine Go.Am.pcT h2 ?_
    refine tgA ?_
    refine Go.Am.pcT h3 ?_
    refine tgA ?_
    refine tr_skipq (.inl rfl) ?_
    refine tr_skipq (.inl rfl) ?_
    refine tgA ?_
    refine Go.Am.pcT h5 ?_
    refine tgA ?_
    refine tr_nil ⟨rfl, by simp [LooksL, lookAll], ?_⟩
    refine goA 60 ?_
    refine tr_drawB rfl (by conv => lhs; cbv) rfl ?_
    refine tgA ?_
    refine Go.Am.pcT b1 ?_
    refine tgA ?_
    cases d1
    ·
     refine tr_ung rfl ?_
     refine tgA ?_
     refine tr_ung rfl ?_
     refine tgA ?_
     refine tr_ung rfl ?_
     refine tgA ?_
     refine tr_ung rfl ?_
     refine Go.Am.pcT b2 ?_
     refine tgA ?_
     cases d2
     ·
      refine tr_ung rfl ?_
      refine tgA ?_
      refine tr_ung rfl ?_
      refine tgA ?_
      refine tr_ung rfl ?_
      refine tgA ?_
      refine tr_ung rfl ?_
      refine Go.Am.pcT b3t ?_
      refine tgA ?_
      cases d3
      ·
       refine tr_ung rfl ?_
       refine tgA ?_
       refine tr_ung rfl ?_
       refine Go.Am.pcT h4 ?_
       refine tr_ung rfl ?_
       refine tgA ?_
       refine tr_ung rfl ?_
       refine tgA ?_
       refine tr_ung rfl ?_
       refine Go.Am.pcT b4 ?_
       refine tgA ?_
       refine tr_nil ⟨rfl, by simp [LooksL, lookAll], ?_⟩
       refine goA 60 ?_
       refine Go.Am.pcA h6 ?_
       refine goA 0 ?_
       refine on_cond rfl (fun c3 => ?_) (fun c3 => ?_)
       ·
        simp [ee] at c3
        refine goA 60 ?_
        refine fn_ret rfl rfl (.val ?_)
        exact congrArg (Value.int .i64) (by rw [hR]; clear ee hX; grind)
       ·
        simp [ee] at c3
        refine goA 0 ?_
        refine nsB hX (by conv => lhs; cbv) ?_
        refine goA 0 ?_
        refine nsB hX (by conv => lhs; cbv) ?_
        refine goA 0 ?_
        refine on_guard rfl rfl (fun c4 => ?_) (fun c4 => ?_)
        ·
         simp [ee] at c4
        ·
         simp [ee] at c4
         refine goA 60 ?_
         refine Go.Am.pcG h4 ?_
         refine goA 0 ?_
         refine goA 1 ?_
         refine goA 1 ?_
         refine nsB hX (by conv => lhs; cbv) ?_
         refine goA 0 ?_
         refine on_guard rfl rfl (fun c5 => ?_) (fun c5 => ?_)
         ·
          simp [ee] at c5
          refine goA 60 ?_
          refine on_gskip rfl rfl ?_
          refine goA 60 ?_
          refine fn_ret rfl rfl (.val ?_)
          exact congrArg (Value.int .i64) (by rw [hR]; clear ee hX; grind)
         ·
          simp [ee] at c5
          refine goA 1 ?_
          refine goA 1 ?_
          refine goA 1 ?_
          refine on_guard rfl rfl (fun c6 => ?_) (fun c6 => ?_)
          ·
           simp [ee] at c6
          ·
           simp [ee] at c6
           refine goA 1 ?_
           refine goA 1 ?_
           refine goA 1 ?_
           refine goA 1 ?_
           refine goA 1 ?_
           refine on_cond rfl (fun c7 => ?_) (fun c7 => ?_)
           ·
            simp [ee] at c7
           ·
            simp [ee] at c7
            refine goA 60 ?_
            refine fn_ret rfl rfl (.val ?_)
            exact congrArg (Value.int .i64) (by rw [hR]; clear ee hX; grind)
      ·
       refine tr_skipq (.inl rfl) ?_
       refine tr_skipq (.inl rfl) ?_
       refine tr_skipq (.inl rfl) ?_
       refine tr_skipq (.inl rfl) ?_
       refine tr_skipq (.inl rfl) ?_
       refine tgA ?_
       refine tr_nil ⟨rfl, by simp [LooksL, lookAll], ?_⟩
       refine goA 60 ?_
       refine fn_ret rfl rfl (.val ?_)
       exact congrArg (Value.int .i64) (by rw [hR]; clear ee hX; grind)
     ·
      refine tr_skipq (.inl rfl) ?_
      refine tr_skipq (.inl rfl) ?_
      refine tr_skipq (.inl rfl) ?_
      refine tr_skipq (.inl rfl) ?_
      refine tgA ?_
      refine tr_skipq (.inl rfl) ?_
      refine tr_skipq (.inl rfl) ?_
      refine tr_skipq (.inl rfl) ?_
      refine tr_skipq (.inl rfl) ?_
      refine tr_skipq (.inl rfl) ?_
      refine tgA ?_
      refine tr_nil ⟨rfl, by simp [LooksL, lookAll], ?_⟩
      refine goA 60 ?_
      refine fn_ret rfl rfl (.val ?_)
      exact congrArg (Value.int .i64) (by rw [hR]; clear ee hX; grind)
    ·
     refine tr_skipq (.inl rfl) ?_
     refine tr_skipq (.inl rfl) ?_
     refine tr_skipq (.inl rfl) ?_
     refine tr_skipq (.inl rfl) ?_
     refine tgA ?_
     refine tr_skipq (.inl rfl) ?_
     refine tr_skipq (.inl rfl) ?_
     refine tr_skipq (.inl rfl) ?_
     refine tr_skipq (.inl rfl) ?_
     refine tgA ?_
     refine tr_skipq (.inl rfl) ?_
     refine tr_skipq (.inl rfl) ?_
     refine tr_skipq (.inl rfl) ?_
     refine tr_skipq (.inl rfl) ?_
     refine tr_skipq (.inl rfl) ?_
     refine tgA ?_
     refine tr_nil ⟨rfl, by simp [LooksL, lookAll], ?_⟩
     refine goA 60 ?_
     refine fn_ret rfl rfl (.val ?_)
     exact congrArg (Value.int .i64) (by rw [hR]; clear ee hX; grind)
 ·
  refine goA 0 ?_
  refine on_cond rfl (fun c1 => ?_) (fun c1 => ?_)
  ·
   simp [ee] at c1
   refine goA 60 ?_
   refine fn_ret rfl rfl (.val ?_)
   exact congrArg (Value.int .i64) (by rw [hR]; clear ee hX; grind)
  ·
   simp [ee] at c1
   refine goA 60 ?_
   refine Go.Am.pcA h1 ?_
   refine goA 0 ?_
   refine on_cond rfl (fun c2 => ?_) (fun c2 => ?_)
   ·
    simp [ee] at c2
    refine goA 60 ?_
    refine fn_ret rfl rfl (.val ?_)
    exact congrArg (Value.int .i64) (by rw [hR]; clear ee hX; grind)
   ·
    simp [ee] at c2
    refine goA 60 ?_
    refine tr_drawB rfl (by conv => lhs; cbv) rfl ?_
    refine tgA ?_
    refine Go.Am.pcT h2 ?_
    refine tgA ?_
    refine Go.Am.pcT h3 ?_
    refine tgA ?_
    refine tr_ung rfl ?_
    refine tgA ?_
    refine tr_ung rfl ?_
    refine Go.Am.pcT h4 ?_
    refine tgA ?_
    refine Go.Am.pcT h5 ?_
    refine tgA ?_
    refine tr_nil ⟨rfl, by simp [LooksL, lookAll], ?_⟩
    refine goA 60 ?_
    refine tr_drawB rfl (by conv => lhs; cbv) rfl ?_
    refine tgA ?_
    refine Go.Am.pcT b1 ?_
    refine tgA ?_
    refine tr_ung rfl ?_
    refine tgA ?_
    refine tr_ung rfl ?_
    refine tgA ?_
    refine tr_ung rfl ?_
    refine tgA ?_
    refine tr_ung rfl ?_
    refine Go.Am.pcT b2 ?_
    refine tgA ?_
    refine tr_ung rfl ?_
    refine tgA ?_
    refine tr_ung rfl ?_
    refine tgA ?_
    refine tr_ung rfl ?_
    refine tgA ?_
    refine tr_ung rfl ?_
    refine Go.Am.pcT b3t ?_
    refine tgA ?_
    cases d3
    ·
     refine tr_ung rfl ?_
     refine tgA ?_
     refine tr_ung rfl ?_
     refine Go.Am.pcT h4 ?_
     refine tr_ung rfl ?_
     refine tgA ?_
     refine tr_ung rfl ?_
     refine tgA ?_
     refine tr_ung rfl ?_
     refine Go.Am.pcT b4 ?_
     refine tgA ?_
     refine tr_nil ⟨rfl, by simp [LooksL, lookAll], ?_⟩
     refine goA 0 ?_
     refine on_cond rfl (fun c3 => ?_) (fun c3 => ?_)
     ·
      refine goA 60 ?_
      refine fn_ret rfl rfl (.val ?_)
      exact congrArg (Value.int .i64) (by rw [hR]; clear ee hX; grind)
     ·
      refine goA 0 ?_
      refine goA 1 ?_
      refine nsB hX (by conv => lhs; cbv) ?_
      refine goA 0 ?_
      refine nsB hX (by conv => lhs; cbv) ?_
      refine goA 0 ?_
      refine on_guard rfl rfl (fun c4 => ?_) (fun c4 => ?_)
      ·
       simp [ee] at c4
       refine goA 60 ?_
       refine on_gskip rfl rfl ?_
       refine goA 60 ?_
       refine on_gskip rfl rfl ?_
       refine goA 60 ?_
       refine fn_ret rfl rfl (.val ?_)
       exact congrArg (Value.int .i64) (by rw [hR]; clear ee hX; grind)
      ·
       simp [ee] at c4
       refine goA 60 ?_
       refine Go.Am.pcG h4 ?_
       refine goA 0 ?_
       refine goA 1 ?_
       refine goA 1 ?_
       refine nsB hX (by conv => lhs; cbv) ?_
       refine goA 0 ?_
       refine on_guard rfl rfl (fun c5 => ?_) (fun c5 => ?_)
       ·
        simp [ee] at c5
       ·
        simp [ee] at c5
        refine goA 1 ?_
        refine goA 1 ?_
        refine goA 1 ?_
        refine on_guard rfl rfl (fun c6 => ?_) (fun c6 => ?_)
        ·
         simp [ee] at c6
         refine goA 60 ?_
         refine on_lend rfl rfl h7 rfl ⟨[.gone], ⟨trivial, trivial⟩, ⟨.cl hccl, .agg' ⟨.refl _, .nilI _, .refl _, .refl _, .refl _, .refl _, .refl _, .refl _, trivial⟩, trivial⟩⟩ ?_
         refine goA 0 ?_
         refine goA 1 ?_
         refine on_cond rfl (fun c7 => ?_) (fun c7 => ?_)
         ·
          simp [ee] at c7
          refine goA 60 ?_
          refine fn_ret rfl rfl (.val ?_)
          exact congrArg (Value.int .i64) (by rw [hR]; clear ee hX; grind)
         ·
          simp [ee] at c7
          refine goA 60 ?_
          refine fn_ret rfl rfl (.val ?_)
          exact congrArg (Value.int .i64) (by rw [hR]; clear ee hX; grind)
        ·
         simp [ee] at c6
    ·
     refine tr_skipq (.inl rfl) ?_
     refine tr_skipq (.inl rfl) ?_
     refine tr_skipq (.inl rfl) ?_
     refine tr_skipq (.inl rfl) ?_
     refine tr_skipq (.inl rfl) ?_
     refine tgA ?_
     refine tr_nil ⟨rfl, by simp [LooksL, lookAll], ?_⟩
     refine goA 60 ?_
     refine fn_ret rfl rfl (.val ?_)
     exact congrArg (Value.int .i64) (by rw [hR]; clear ee hX; grind)
 ·
  refine goA 0 ?_
  refine on_cond rfl (fun c1 => ?_) (fun c1 => ?_)
  ·
   simp [ee] at c1
   refine goA 60 ?_
   refine fn_ret rfl rfl (.val ?_)
   exact congrArg (Value.int .i64) (by rw [hR]; clear ee hX; grind)
  ·
   simp [ee] at c1
   refine goA 60 ?_
   refine Go.Am.pcA h1 ?_
   refine goA 0 ?_
   refine on_cond rfl (fun c2 => ?_) (fun c2 => ?_)
   ·
    simp [ee] at c2
    refine goA 60 ?_
    refine fn_ret rfl rfl (.val ?_)
    exact congrArg (Value.int .i64) (by rw [hR]; clear ee hX; grind)
   ·
    simp [ee] at c2
    refine goA 60 ?_
    refine tr_drawB rfl (by conv => lhs; cbv) rfl ?_
    refine tgA ?_
    refine Go.Am.pcT h2 ?_
    refine tgA ?_
    refine Go.Am.pcT h3 ?_
    refine tgA ?_
    refine tr_ung rfl ?_
    refine tgA ?_
    refine tr_ung rfl ?_
    refine Go.Am.pcT h4 ?_
    refine tgA ?_
    refine Go.Am.pcT h5 ?_
    refine tgA ?_
    refine tr_nil ⟨rfl, by simp [LooksL, lookAll], ?_⟩
    refine goA 60 ?_
    refine tr_drawB rfl (by conv => lhs; cbv) rfl ?_
    refine tgA ?_
    refine Go.Am.pcT b1 ?_
    refine tgA ?_
    refine tr_ung rfl ?_
    refine tgA ?_
    refine tr_ung rfl ?_
    refine tgA ?_
    refine tr_ung rfl ?_
    refine tgA ?_
    refine tr_ung rfl ?_
    refine Go.Am.pcT b2 ?_
    refine tgA ?_
    refine tr_ung rfl ?_
    refine tgA ?_
    refine tr_ung rfl ?_
    refine tgA ?_
    refine tr_ung rfl ?_
    refine tgA ?_
    refine tr_ung rfl ?_
    refine Go.Am.pcT b3f ?_
    refine tgA ?_
    refine tr_ung rfl ?_
    refine tgA ?_
    refine tr_ung rfl ?_
    refine Go.Am.pcT h4 ?_
    refine tr_ung rfl ?_
    refine tgA ?_
    refine tr_ung rfl ?_
    refine tgA ?_
    refine tr_ung rfl ?_
    refine Go.Am.pcT b4 ?_
    refine tgA ?_
    refine tr_nil ⟨rfl, by simp [LooksL, lookAll], ?_⟩
    refine goA 60 ?_
    refine Go.Am.pcA h6 ?_
    refine goA 0 ?_
    refine on_cond rfl (fun c3 => ?_) (fun c3 => ?_)
    ·
     simp [ee] at c3
     refine goA 60 ?_
     refine fn_ret rfl rfl (.val ?_)
     exact congrArg (Value.int .i64) (by rw [hR]; clear ee hX; grind)
    ·
     simp [ee] at c3
     refine goA 0 ?_
     refine nsB hX (by conv => lhs; cbv) ?_
     refine goA 0 ?_
     refine nsB hX (by conv => lhs; cbv) ?_
     refine goA 0 ?_
     refine on_guard rfl rfl (fun c4 => ?_) (fun c4 => ?_)
     ·
      simp [ee] at c4
      refine goA 60 ?_
      refine on_gskip rfl rfl ?_
      refine goA 60 ?_
      refine on_gskip rfl rfl ?_
      refine goA 60 ?_
      refine fn_ret rfl rfl (.val ?_)
      exact congrArg (Value.int .i64) (by rw [hR]; clear ee hX; grind)
     ·
      simp [ee] at c4
      refine goA 60 ?_
      refine Go.Am.pcG h4 ?_
      refine goA 0 ?_
      refine goA 1 ?_
      refine goA 1 ?_
      refine nsB hX (by conv => lhs; cbv) ?_
      refine goA 0 ?_
      refine on_guard rfl rfl (fun c5 => ?_) (fun c5 => ?_)
      ·
       simp [ee] at c5
       refine goA 60 ?_
       refine on_gskip rfl rfl ?_
       refine goA 60 ?_
       refine fn_ret rfl rfl (.val ?_)
       exact congrArg (Value.int .i64) (by rw [hR]; clear ee hX; grind)
      ·
       simp [ee] at c5
       refine goA 1 ?_
       refine goA 1 ?_
       refine goA 1 ?_
       refine on_guard rfl rfl (fun c6 => ?_) (fun c6 => ?_)
       ·
        simp [ee] at c6
       ·
        simp [ee] at c6
        refine goA 1 ?_
        refine goA 1 ?_
        refine goA 1 ?_
        refine goA 1 ?_
        refine goA 1 ?_
        refine on_cond rfl (fun c7 => ?_) (fun c7 => ?_)
        ·
         simp [ee] at c7
        ·
         simp [ee] at c7
         refine goA 60 ?_
         refine fn_ret rfl rfl (.val ?_)
         exact congrArg (Value.int .i64) (by rw [hR]; clear ee hX; grind)
 ·
  refine goA 0 ?_
  refine on_cond rfl (fun c1 => ?_) (fun c1 => ?_)
  ·
   simp [ee] at c1
   refine goA 60 ?_
   refine fn_ret rfl rfl (.val ?_)
   exact congrArg (Value.int .i64) (by rw [hR]; clear ee hX; grind)
  ·
   simp [ee] at c1
   refine goA 60 ?_
   refine Go.Am.pcA h1 ?_
   refine goA 0 ?_
   refine on_cond rfl (fun c2 => ?_) (fun c2 => ?_)
   ·
    simp [ee] at c2
    refine goA 60 ?_
    refine fn_ret rfl rfl (.val ?_)
    exact congrArg (Value.int .i64) (by rw [hR]; clear ee hX; grind)
   ·
    simp [ee] at c2
    refine goA 60 ?_
    refine tr_drawB rfl (by conv => lhs; cbv) rfl ?_
    refine tgA ?_
    refine Go.Am.pcT h2 ?_
    refine tgA ?_
    refine Go.Am.pcT h3 ?_
    refine tgA ?_
    refine tr_ung rfl ?_
    refine tgA ?_
    refine tr_ung rfl ?_
    refine Go.Am.pcT h4 ?_
    refine tgA ?_
    refine Go.Am.pcT h5 ?_
    refine tgA ?_
    refine tr_nil ⟨rfl, by simp [LooksL, lookAll], ?_⟩
    refine goA 60 ?_
    refine tr_drawB rfl (by conv => lhs; cbv) rfl ?_
    refine tgA ?_
    refine Go.Am.pcT b1 ?_
    refine tgA ?_
    refine tr_ung rfl ?_
    refine tgA ?_
    refine tr_ung rfl ?_
    refine tgA ?_
    refine tr_ung rfl ?_
    refine tgA ?_
    refine tr_ung rfl ?_
    refine Go.Am.pcT b2 ?_
    refine tgA ?_
    refine tr_ung rfl ?_
    refine tgA ?_
    refine tr_ung rfl ?_
    refine tgA ?_
    refine tr_ung rfl ?_
    refine tgA ?_
    refine tr_ung rfl ?_
    refine Go.Am.pcT b3f ?_
    refine tgA ?_
    refine tr_ung rfl ?_
    refine tgA ?_
    refine tr_ung rfl ?_
    refine Go.Am.pcT h4 ?_
    refine tr_ung rfl ?_
    refine tgA ?_
    refine tr_ung rfl ?_
    refine tgA ?_
    refine tr_ung rfl ?_
    refine Go.Am.pcT b4 ?_
    refine tgA ?_
    refine tr_nil ⟨rfl, by simp [LooksL, lookAll], ?_⟩
    refine goA 0 ?_
    refine goA 1 ?_
    refine goA 1 ?_
    refine nsB hX (by conv => lhs; cbv) ?_
    refine goA 0 ?_
    refine nsB hX (by conv => lhs; cbv) ?_
    refine goA 0 ?_
    refine on_guard rfl rfl (fun c3 => ?_) (fun c3 => ?_)
    ·
     simp [ee] at c3
     refine goA 60 ?_
     refine on_gskip rfl rfl ?_
     refine goA 60 ?_
     refine on_gskip rfl rfl ?_
     refine goA 60 ?_
     refine fn_ret rfl rfl (.val ?_)
     exact congrArg (Value.int .i64) (by rw [hR]; clear ee hX; grind)
    ·
     simp [ee] at c3
     refine goA 60 ?_
     refine Go.Am.pcG h4 ?_
     refine goA 0 ?_
     refine goA 1 ?_
     refine goA 1 ?_
     refine nsB hX (by conv => lhs; cbv) ?_
     refine goA 0 ?_
     refine on_guard rfl rfl (fun c4 => ?_) (fun c4 => ?_)
     ·
      simp [ee] at c4
      refine goA 60 ?_
      refine on_gskip rfl rfl ?_
      refine goA 60 ?_
      refine fn_ret rfl rfl (.val ?_)
      exact congrArg (Value.int .i64) (by rw [hR]; clear ee hX; grind)
     ·
      simp [ee] at c4
      refine goA 1 ?_
      refine goA 1 ?_
      refine goA 1 ?_
      refine on_guard rfl rfl (fun c5 => ?_) (fun c5 => ?_)
      ·
       simp [ee] at c5
       refine goA 60 ?_
       refine on_lend rfl rfl h7 rfl ⟨[.gone], ⟨trivial, trivial⟩, ⟨.cl hccl, .agg' ⟨.refl _, .nilI _, .refl _, .refl _, .refl _, .refl _, .refl _, .refl _, trivial⟩, trivial⟩⟩ ?_
       refine goA 0 ?_
       refine goA 1 ?_
       refine on_cond rfl (fun c6 => ?_) (fun c6 => ?_)
       ·
        simp [ee] at c6
        refine goA 60 ?_
        refine fn_ret rfl rfl (.val ?_)
        exact congrArg (Value.int .i64) (by rw [hR]; clear ee hX; grind)
       ·
        simp [ee] at c6
        refine goA 60 ?_
        refine fn_ret rfl rfl (.val ?_)
        exact congrArg (Value.int .i64) (by rw [hR]; clear ee hX; grind)
      ·
       simp [ee] at c5
mutual
def Pat.tot (lim : Nat) : Pat → Nat
 | .mk _ a _ _ _ _ _ => Pat.totL lim 1 a
def Pat.totL (lim : Nat) : Nat → List Pat → Nat
 | n, [] => n
 | n, e :: r => if n ≤ lim then Pat.totL lim (n + e.tot lim) r else n
end
theorem Pat.totL_le {lim : Nat} {l : List Pat} (h : ∀ e ∈ l, e.tot lim ≤ e.cnt) : ∀ n, Pat.totL lim n l ≤ n + Pat.cntL l := by
 induction l with
 | nil => intro n; simp [Pat.totL]
 | cons e r ih =>
  intro n
  have h1 := h e (by simp)
  have h2 := ih (fun e he => h e (by simp [he])) (n + e.tot lim)
  simp only [Pat.totL, Pat.cntL]; split <;> omega
theorem Pat.tot_le (lim : Nat) : ∀ e : Pat, e.tot lim ≤ e.cnt := Pat.ind fun o a t v s n c h => by
 have := Pat.totL_le h 1
 simp only [Pat.tot, Pat.cnt]; omega
theorem Pat.totL_eq {lim : Nat} {l : List Pat} (h : ∀ e ∈ l, e.cnt ≤ lim → e.tot lim = e.cnt) : ∀ n, n + Pat.cntL l ≤ lim → Pat.totL lim n l = n + Pat.cntL l := by
 induction l with
 | nil => intro n _; simp [Pat.totL, Pat.cntL]
 | cons e r ih =>
  intro n hn
  simp only [Pat.cntL] at hn ⊢
  have h1 := h e (by simp) (by omega)
  rw [Pat.totL, if_pos (by omega), ih (fun e he => h e (by simp [he])) _ (by omega)]; omega
theorem Pat.tot_eq {lim : Nat} : ∀ e : Pat, e.cnt ≤ lim → e.tot lim = e.cnt := Pat.ind fun o a t v s n c h hl => by
 simp only [Pat.tot, Pat.cnt] at hl ⊢
 exact Pat.totL_eq h 1 hl
theorem Pat.totL_gt {lim : Nat} {l : List Pat} (h : ∀ e ∈ l, lim < e.cnt → lim < e.tot lim) : ∀ n, lim < n + Pat.cntL l → lim < Pat.totL lim n l := by
 induction l with
 | nil => intro n hn; simpa [Pat.totL, Pat.cntL] using hn
 | cons e r ih =>
  intro n hn
  simp only [Pat.cntL] at hn
  rw [Pat.totL]
  split
  · refine ih (fun e he => h e (by simp [he])) _ ?_
    by_cases hc : e.cnt ≤ lim
    · rw [Pat.tot_eq e hc]; omega
    · have := h e (by simp) (by omega); omega
  · omega
theorem Pat.tot_gt {lim : Nat} : ∀ e : Pat, lim < e.cnt → lim < e.tot lim := Pat.ind fun o a t v s n c h hl => by
 simp only [Pat.tot, Pat.cnt] at hl ⊢
 exact Pat.totL_gt h 1 hl
theorem Pat.tot_iff (e : Pat) (lim : Nat) : e.tot lim ≤ lim ↔ e.cnt ≤ lim := by
 by_cases h : e.cnt ≤ lim
 · rw [Pat.tot_eq e h]
 · have := Pat.tot_gt (lim := lim) e (by omega); omega
theorem P_ref09_Total (lim : Nat) (hlim : lim ≤ 1099511627776) : ∀ p : Pat, p.Sm → PCall EE 39 [p.enc, int lim] (int (p.tot lim)) := by
 generalize hli : (lim : Int) = li
 refine Pat.ind ?_
 intro o a t v s n c ih hs
 obtain ⟨co, ca, cv, cf, ck, xk, xn, xt⟩ := c
 have hlen := hs.len
 have hih : ∀ q ∈ a, PCall EE 39 [q.enc, int li] (int (q.tot lim)) := fun q hq => ih q hq (hs.arg hq)
 have hcl := Pat.closedI a
 have hce := Ex.closedI ca
 have hcnt : Pat.cntL a ≤ 1048576 := by have hs := hs.1; simp only [Pat.cnt] at hs; omega
 have hde := fun q : Pat => Pat.tot_le lim q
 simp only [Pat.tot]
 obtain ⟨R, hR⟩ : ∃ R, R = Pat.totL lim 1 a := ⟨_, rfl⟩
 rw [← hR, Pat.enc_mk]
 refine wordsN ?_; unhygienic intros
 generalize hes : mapE Pat.enc a = es at *
 generalize mapE Ex.enc ca = ec at *
 have hel : es.length = a.length := by rw [← hes, mapE_len]
 refine fn_body (fn := Tryz.f39) (n := 29) (ac := Tryzc39) (rvs := [.t 4]) rfl (by decide) Tryzp39 rfl rfl rfl ?_
 refine goA 60 ?_
 refine on_loopP (ι := List Pat × List Pat × Int × Int) (fun p => ([(5, int p.2.2.2), (6, int p.2.2.1), (1, int li), (2, .ptr 0 0)], [.cells [int o, .isl 14 es, int t, int v, int s, int n, int co, .isl 8 ec, int cv, int cf, int ck, int xk, int xn, str xt]])) (fun p => a = p.1 ++ p.2.1 ∧ p.2.2.1 = p.1.length ∧ p.2.2.2 ≤ 1 + Pat.cntL p.1 ∧ 0 ≤ p.2.2.2 ∧ R = Pat.totL lim p.2.2.2.toNat p.2.1) (fun p => p.2.1.length) ([], a, 0, 1) ⟨rfl, rfl, by simp [Pat.cntL], by simp, hR⟩ ?_ ?_
 · exact (ent_sub [.to 0] [some 0] ⟨⟨by simp, rfl⟩, trivial⟩ ⟨osrc_cells (b := 0) rfl rfl rfl ⟨.refl _, .cl hcl, .refl _, .refl _, .refl _, .refl _, .refl _, .cl hce, .refl _, .refl _, .refl _, .refl _, .refl _, .refl _, trivial⟩, trivial⟩ ⟨.refl _, .refl _, .refl _, .refl _, trivial⟩)
 rintro ⟨d, r, i, nn⟩ ⟨g1, gi, gn, gp, gt⟩
 dsimp only at g1 gi gn gp gt ⊢
 have hnt : (nn.toNat : Int) = nn := Int.toNat_of_nonneg gp
 cases r with
 | nil =>
  have L1 := len_split g1
  try simp only [List.length] at L1
  have hc : iLt i (lenA es) = false := lt_f e_iLt e_lenA (by omega)
  rw [Pat.totL] at gt
  have hv : nn = (R : Int) := by omega
  have hb : ∀ b, bAnd false b = false := by simp [ee]
  refine goB hX 0 (by conv => lhs; cbv; try simp only [hc, hb]; cbv; try simp only [hc, hb]; cbv; try simp only [hc, hb]; cbv; try simp only [hc, hb]; cbv) ?_
  refine goA 60 ?_
  refine loopP_exit ?_
  refine goA 60 ?_
  refine fn_ret rfl rfl (.val ?_)
  exact congrArg (Value.int .i64) hv
 | cons q r =>
  have L1 := len_split g1
  try simp only [List.length] at L1
  have hc : iLt i (lenA es) = true := lt_t e_iLt e_lenA (by omega)
  have hat := el_at e_atA hes g1 gi
  have hq := hih q (by rw [g1]; simp)
  have hqc := Pat.closed q
  have hqd := hde q
  rw [g1, Pat.cntL_append, Pat.cntL] at hcnt
  obtain ⟨qO, qA, qT, qV, qS, qN, qCo, qCa, qCv, qCf, qCk, qXk, qXn, qXt, hx⟩ := Pat.form q
  rw [hx] at hq hat hqc
  have hb : ∀ b, bAnd true b = b := by simp [ee]
  rw [Pat.totL] at gt
  by_cases hle : nn ≤ li
  · have h2 : iLe nn li = true := by simp [ee]; omega
    rw [if_pos (by omega)] at gt
    generalize hqn : (q.tot lim : Int) = qn at hq
    have hn2 : iAdd .i64 nn qn = nn + qn := add_w e_iAdd (by omega) (by omega)
    have hi2 : iAdd .i64 i 1 = ((d ++ [q]).length : Int) := by rw [List.length_append]; exact inc_w e_iAdd gi (by omega)
    have hn4 : iAdd .i64 nn qn ≤ 1 + Pat.cntL (d ++ [q]) ∧ 0 ≤ iAdd .i64 nn qn := by rw [Pat.cntL_append, Pat.cntL, Pat.cntL, hn2]; omega
    have hn3 : (iAdd .i64 nn qn).toNat = nn.toNat + q.tot lim := by omega
    refine goB hX 0 (by conv => lhs; cbv; try simp only [hc, hat, hb, h2]; cbv; try simp only [hc, hat, hb, h2]; cbv; try simp only [hc, hat, hb, h2]; cbv; try simp only [hc, hat, hb, h2]; cbv) ?_
    refine goB hX 1 (by conv => lhs; cbv; try simp only [hc, hat, hb, h2]; cbv; try simp only [hc, hat, hb, h2]; cbv; try simp only [hc, hat, hb, h2]; cbv; try simp only [hc, hat, hb, h2]; cbv) ?_
    refine Go.Am.pcA hq ?_
    refine goA 60 ?_
    refine loopP_next (d ++ [q], r, iAdd .i64 i 1, iAdd .i64 nn qn) ⟨by simp [g1], hi2, hn4.1, hn4.2, hn3 ▸ gt⟩ (by simp) (ent_sub [.to 0] [some 0] ⟨⟨by simp, rfl⟩, trivial⟩ ⟨osrc_cells (b := 0) rfl rfl rfl ⟨.refl _, .cl hcl, .refl _, .refl _, .refl _, .refl _, .refl _, .cl hce, .refl _, .refl _, .refl _, .refl _, .refl _, .refl _, trivial⟩, trivial⟩ ⟨.refl _, .refl _, .refl _, .refl _, trivial⟩)
  · have h2 : iLe nn li = false := by simp [ee]; omega
    rw [if_neg (by omega)] at gt
    have hv : nn = (R : Int) := by omega
    refine goB hX 0 (by conv => lhs; cbv; try simp only [hc, hat, hb, h2]; cbv; try simp only [hc, hat, hb, h2]; cbv; try simp only [hc, hat, hb, h2]; cbv; try simp only [hc, hat, hb, h2]; cbv) ?_
    refine goA 60 ?_
    refine loopP_exit ?_
    refine goA 60 ?_
    refine fn_ret rfl rfl (.val ?_)
    exact congrArg (Value.int .i64) hv
theorem P_ref09_CheckRest (p : Pat) (hs : p.Sm) : PCall EE 50 [p.enc] (int p.chkR) := by
 have h1 := P_ref09_Total 64 (by decide) p hs
 have h2 := P_ref09_Depth p hs
 have h3 := P_ref09_Nodes p hs
 have htot := Pat.tot_iff p 64
 have hnd := hs.node
 have hcn := cnt_node p
 have hcl := Pat.closed p
 obtain ⟨R, hR⟩ : ∃ R, R = p.chkR := ⟨_, rfl⟩
 rw [← hR]
 unfold Pat.chkR at hR
 obtain ⟨tt, htt⟩ : ∃ z : Int, z = p.tot 64 := ⟨_, rfl⟩
 obtain ⟨dp, hdp⟩ : ∃ z : Int, z = p.dep := ⟨_, rfl⟩
 rw [← htt] at h1
 rw [← hdp] at h2
 have hnl := Pat.nodes_len p
 have hqn : p.cnt ≤ 64 → ∀ q ∈ p.nodes, PCall EE 70 [q.enc] (int q.nodeE) := fun hc q hq => P_ref09_node q (hnd q hq) (by
  have h1 := (hcn q hq).1
  obtain ⟨o, a, t, v, s, n, c⟩ := q
  have := Pat.cntL_len a
  simp only [Pat.cnt, Pat.args] at h1 ⊢
  omega)
 have hnc := Pat.closedI p.nodes
 generalize hnn : p.nodes = nl at *
 obtain ⟨pO, pA, pT, pV, pS, pN, pCo, pCa, pCv, pCf, pCk, pXk, pXn, pXt, hx⟩ := Pat.form p
 rw [hx] at h1 h2 h3 hcl ⊢
 refine wordsN ?_; unhygienic intros
 generalize hes : mapE Pat.enc nl = es at *
 have hel : es.length = nl.length := by rw [← hes, mapE_len]
 refine fn_body (fn := Tryz.f50) (n := 28) (ac := Tryzc50) (rvs := [.t 2]) rfl (by decide) Tryzp50 rfl rfl rfl ?_
 by_cases g1 : tt ≤ 64
 rotate_left
 · have k1 : iLt 64 tt = true := by simp only [ee]; simp; omega
   rw [if_pos (by omega)] at hR
   refine goA 60 ?_
   refine Go.Am.pcA h1 ?_
   refine goB hX 0 (by conv => lhs; cbv; try simp only [k1]; cbv; try simp only [k1]; cbv; try simp only [k1]; cbv; try simp only [k1]; cbv) ?_
   refine goA 60 ?_
   refine fn_ret rfl rfl (.val ?_)
   exact congrArg (Value.int .i64) hR.symm
 have k1 : iLt 64 tt = false := by simp only [ee]; simp; omega
 rw [if_neg (by omega)] at hR
 have hqn := hqn (by omega)
 by_cases g2 : dp ≤ 12
 rotate_left
 · have k2 : iLt 12 dp = true := by simp only [ee]; simp; omega
   rw [if_pos (by omega)] at hR
   refine goA 60 ?_
   refine Go.Am.pcA h1 ?_
   refine goB hX 0 (by conv => lhs; cbv; try simp only [k1, k2]; cbv; try simp only [k1, k2]; cbv; try simp only [k1, k2]; cbv; try simp only [k1, k2]; cbv) ?_
   refine goA 60 ?_
   refine Go.Am.pcA h2 ?_
   refine goB hX 0 (by conv => lhs; cbv; try simp only [k1, k2]; cbv; try simp only [k1, k2]; cbv; try simp only [k1, k2]; cbv; try simp only [k1, k2]; cbv) ?_
   refine goA 60 ?_
   refine fn_ret rfl rfl (.val ?_)
   exact congrArg (Value.int .i64) hR.symm
 have k2 : iLt 12 dp = false := by simp only [ee]; simp; omega
 rw [if_neg (by omega)] at hR
 refine goA 60 ?_
 refine Go.Am.pcA h1 ?_
 refine goB hX 0 (by conv => lhs; cbv; try simp only [k1, k2]; cbv; try simp only [k1, k2]; cbv; try simp only [k1, k2]; cbv; try simp only [k1, k2]; cbv) ?_
 refine goA 60 ?_
 refine Go.Am.pcA h2 ?_
 refine goB hX 0 (by conv => lhs; cbv; try simp only [k1, k2]; cbv; try simp only [k1, k2]; cbv; try simp only [k1, k2]; cbv; try simp only [k1, k2]; cbv) ?_
 refine goA 60 ?_
 refine Go.Am.pcA h3 ?_
 refine goA 60 ?_
 refine on_loopP (ι := List Pat × List Pat × Int) (fun p => ([(4, int p.2.2), (3, .isl 14 es)], [])) (fun p => nl = p.1 ++ p.2.1 ∧ p.2.2 = p.1.length ∧ R = firstE Pat.nodeE p.2.1) (fun p => p.2.1.length) ([], nl, 0) ⟨rfl, rfl, hR⟩ ?_ ?_
 · exact (ent_sub [.gone] [] ⟨trivial, trivial⟩ trivial ⟨.refl _, .cl hnc, trivial⟩)
 rintro ⟨d, r, i⟩ ⟨g1, gi, gR⟩
 dsimp only at g1 gi gR ⊢
 cases r with
 | nil =>
  have L1 := len_split g1
  try simp only [List.length] at L1
  have hc : iLt i (lenA es) = false := lt_f e_iLt e_lenA (by omega)
  have gR : R = 0 := gR
  refine goB hX 0 (by conv => lhs; cbv; try simp only [hc]; cbv; try simp only [hc]; cbv; try simp only [hc]; cbv; try simp only [hc]; cbv) ?_
  refine goA 60 ?_
  refine loopP_exit ?_
  refine goA 60 ?_
  refine fn_ret rfl rfl (.val ?_)
  exact congrArg (Value.int .i64) gR.symm
 | cons q r =>
  have L1 := len_split g1
  try simp only [List.length] at L1
  have hc : iLt i (lenA es) = true := lt_t e_iLt e_lenA (by omega)
  have hat := el_at e_atA hes g1 gi
  have hq := hqn q (by rw [g1]; simp)
  have hqc := Pat.closed q
  rw [firstE] at gR
  obtain ⟨qO, qA, qT, qV, qS, qN, qCo, qCa, qCv, qCf, qCk, qXk, qXn, qXt, hy⟩ := Pat.form q
  rw [hy] at hat hqc hq
  have hi2 : iAdd .i64 i 1 = ((d ++ [q]).length : Int) := by rw [List.length_append]; exact inc_w e_iAdd gi (by omega)
  generalize q.nodeE = fq at *
  by_cases h2 : fq = 0
  · have w2 : iNe fq 0 = false := by simp only [ee]; simpa using h2
    rw [if_neg (by simpa using h2)] at gR
    refine goB hX 0 (by conv => lhs; cbv; try simp only [hc, hat, w2]; cbv; try simp only [hc, hat, w2]; cbv; try simp only [hc, hat, w2]; cbv; try simp only [hc, hat, w2]; cbv) ?_
    refine goB hX 1 (by conv => lhs; cbv; try simp only [hc, hat, w2]; cbv; try simp only [hc, hat, w2]; cbv; try simp only [hc, hat, w2]; cbv; try simp only [hc, hat, w2]; cbv) ?_
    refine Go.Am.pcA hq ?_
    refine goB hX 0 (by conv => lhs; cbv; try simp only [hc, hat, w2]; cbv; try simp only [hc, hat, w2]; cbv; try simp only [hc, hat, w2]; cbv; try simp only [hc, hat, w2]; cbv) ?_
    refine goA 60 ?_
    refine loopP_next (d ++ [q], r, iAdd .i64 i 1) ⟨by simp [g1], hi2, gR⟩ (by simp) (ent_sub [] [] trivial trivial ⟨.refl _, .cl hnc, trivial⟩)
  · have w2 : iNe fq 0 = true := by simp only [ee]; simpa using h2
    rw [if_pos h2] at gR
    refine goB hX 0 (by conv => lhs; cbv; try simp only [hc, hat, w2]; cbv; try simp only [hc, hat, w2]; cbv; try simp only [hc, hat, w2]; cbv; try simp only [hc, hat, w2]; cbv) ?_
    refine goB hX 1 (by conv => lhs; cbv; try simp only [hc, hat, w2]; cbv; try simp only [hc, hat, w2]; cbv; try simp only [hc, hat, w2]; cbv; try simp only [hc, hat, w2]; cbv) ?_
    refine Go.Am.pcA hq ?_
    refine goB hX 0 (by conv => lhs; cbv; try simp only [hc, hat, w2]; cbv; try simp only [hc, hat, w2]; cbv; try simp only [hc, hat, w2]; cbv; try simp only [hc, hat, w2]; cbv) ?_
    refine goA 60 ?_
    refine loopP_ret ?_
    refine goA 60 ?_
    refine fn_ret rfl rfl (.val ?_)
    exact congrArg (Value.int .i64) gR.symm
def properB (l : List Pat) : Bool := l.all fun q => decide (q.op < 8)
theorem P_proper (nl : List Pat) (hlen : nl.length < 1048577) : PCall EE 51 [.isl 14 (mapE Pat.enc nl)] (bool (properB nl)) := by
 obtain ⟨R, hR⟩ : ∃ R, R = properB nl := ⟨_, rfl⟩
 rw [← hR]
 have hnc := Pat.closedI nl
 refine wordsN ?_; unhygienic intros
 generalize hes : mapE Pat.enc nl = es at *
 have hel : es.length = nl.length := by rw [← hes, mapE_len]
 refine fn_body (fn := Tryz.f51) (n := 16) (ac := Tryzc51) (rvs := [.t 2]) rfl (by decide) Tryzp51 rfl rfl rfl ?_
 refine goA 60 ?_
 refine on_loopP (ι := List Pat × List Pat × Int) (fun p => ([(3, int p.2.2), (0, .isl 14 es)], [])) (fun p => nl = p.1 ++ p.2.1 ∧ p.2.2 = p.1.length ∧ R = properB p.2.1) (fun p => p.2.1.length) ([], nl, 0) ⟨rfl, rfl, hR⟩ ?_ ?_
 · exact (ent_sub [] [] trivial trivial ⟨.refl _, .cl hnc, trivial⟩)
 rintro ⟨d, r, i⟩ ⟨g1, gi, gR⟩
 dsimp only at g1 gi gR ⊢
 cases r with
 | nil =>
  have L1 := len_split g1
  try simp only [List.length] at L1
  have hc : iLt i (lenA es) = false := lt_f e_iLt e_lenA (by omega)
  have gR : R = true := gR
  refine goB hX 0 (by conv => lhs; cbv; try simp only [hc]; cbv; try simp only [hc]; cbv; try simp only [hc]; cbv; try simp only [hc]; cbv) ?_
  refine goA 60 ?_
  refine loopP_exit ?_
  refine goA 60 ?_
  refine fn_ret rfl rfl (.val ?_)
  exact congrArg Value.bool gR.symm
 | cons q r =>
  have L1 := len_split g1
  try simp only [List.length] at L1
  have hc : iLt i (lenA es) = true := lt_t e_iLt e_lenA (by omega)
  have hat := el_at e_atA hes g1 gi
  have gR : R = (decide (q.op < 8) && properB r) := gR
  obtain ⟨qO, qA, qT, qV, qS, qN, qCo, qCa, qCv, qCf, qCk, qXk, qXn, qXt, hy, hyc, hqO, hqA, hqT, hqV, hqS, hqN⟩ := Pat.form2 q
  rw [hy] at hat
  rw [← hqO] at gR
  have hi2 : iAdd .i64 i 1 = ((d ++ [q]).length : Int) := by rw [List.length_append]; exact inc_w e_iAdd gi (by omega)
  by_cases h2 : qO < 8
  · have w2 : iLe 8 qO = false := by simp only [ee]; simp; omega
    have gR : R = properB r := by rw [gR]; simp [h2]
    refine goB hX 0 (by conv => lhs; cbv; try simp only [hc, hat, w2]; cbv; try simp only [hc, hat, w2]; cbv; try simp only [hc, hat, w2]; cbv; try simp only [hc, hat, w2]; cbv) ?_
    refine goB hX 1 (by conv => lhs; cbv; try simp only [hc, hat, w2]; cbv; try simp only [hc, hat, w2]; cbv; try simp only [hc, hat, w2]; cbv; try simp only [hc, hat, w2]; cbv) ?_
    refine goA 60 ?_
    refine loopP_next (d ++ [q], r, iAdd .i64 i 1) ⟨by simp [g1], hi2, gR⟩ (by simp) (ent_sub [] [] trivial trivial ⟨.refl _, .cl hnc, trivial⟩)
  · have w2 : iLe 8 qO = true := by simp only [ee]; simp; omega
    have gR : R = false := by rw [gR]; simp [h2]
    refine goB hX 0 (by conv => lhs; cbv; try simp only [hc, hat, w2]; cbv; try simp only [hc, hat, w2]; cbv; try simp only [hc, hat, w2]; cbv; try simp only [hc, hat, w2]; cbv) ?_
    refine goB hX 1 (by conv => lhs; cbv; try simp only [hc, hat, w2]; cbv; try simp only [hc, hat, w2]; cbv; try simp only [hc, hat, w2]; cbv; try simp only [hc, hat, w2]; cbv) ?_
    refine goA 60 ?_
    refine loopP_ret ?_
    refine goA 60 ?_
    refine fn_ret rfl rfl (.val ?_)
    exact congrArg Value.bool gR.symm
theorem proper_first (l : List Pat) : firstE (fun q : Pat => if 8 ≤ q.op then 1 else 0) l = if properB l = true then 0 else 1 := by
 induction l with
 | nil => rfl
 | cons q r ih =>
  rw [firstE]
  by_cases h : 8 ≤ q.op
  · rw [if_pos h, if_pos (by decide), if_neg (by simp [properB]; omega)]
  · rw [if_neg h, if_neg (by decide), ih]
    have : properB (q :: r) = properB r := by simp [properB]; omega
    rw [this]
theorem Pat.chk_red (p : Pat) : p.chk = if p.chkR ≠ 0 then p.chkR else if properB p.nodes = false then 1 else if (cfold p.nodes).2.2 = true then 0 else 14 := by
 unfold Pat.chk Pat.wholeE
 rw [proper_first]
 by_cases h : p.chkR = 0
 · simp only [h, ne_eq, not_true_eq_false, if_false]
   cases properB p.nodes <;> simp
 · simp [h]
theorem P_ref09_Check (p : Pat) (hs : p.Sm) : PCall EE 29 [p.enc] (int p.chk) := by
 have h1 := P_ref09_CheckRest p hs
 have h2 := P_ref09_Nodes p hs
 have hcl := Pat.closed p
 obtain ⟨R, hR⟩ : ∃ R, R = p.chk := ⟨_, rfl⟩
 rw [← hR]
 rw [Pat.chk_red] at hR
 have hnl := Pat.nodes_len p
 have hs1 := hs.1
 have hnc := Pat.closedI p.nodes
 have h3 := P_proper p.nodes (by omega)
 generalize hnn : p.nodes = nl at *
 generalize p.chkR = ck at *
 generalize properB nl = pr at *
 obtain ⟨pO, pA, pT, pV, pS, pN, pCo, pCa, pCv, pCf, pCk, pXk, pXn, pXt, hx⟩ := Pat.form p
 rw [hx] at h1 h2 hcl ⊢
 refine wordsN ?_; unhygienic intros
 generalize hes : mapE Pat.enc nl = es at *
 have hel : es.length = nl.length := by rw [← hes, mapE_len]
 have n0 : bNot false = true := by simp only [ee]; rfl
 have n1 : bNot true = false := by simp only [ee]; rfl
 refine fn_body (fn := Tryz.f29) (n := 59) (ac := Tryzc29) (rvs := [.t 2]) rfl (by decide) Tryzp29 rfl rfl rfl ?_
 by_cases g1 : ck = 0
 rotate_left
 · have k1 : iNe ck 0 = true := by simp only [ee]; simpa using g1
   rw [if_pos g1] at hR
   refine goA 60 ?_
   refine Go.Am.pcA h1 ?_
   refine goB hX 0 (by conv => lhs; cbv; try simp only [k1]; cbv; try simp only [k1]; cbv; try simp only [k1]; cbv; try simp only [k1]; cbv) ?_
   refine goA 60 ?_
   refine fn_ret rfl rfl (.val ?_)
   exact congrArg (Value.int .i64) hR.symm
 have k1 : iNe ck 0 = false := by simp only [ee]; simpa using g1
 rw [if_neg (by simpa using g1)] at hR
 cases pr with
 | false =>
  rw [if_pos rfl] at hR
  refine goA 60 ?_
  refine Go.Am.pcA h1 ?_
  refine goB hX 0 (by conv => lhs; cbv; try simp only [k1, n0]; cbv; try simp only [k1, n0]; cbv; try simp only [k1, n0]; cbv; try simp only [k1, n0]; cbv) ?_
  refine goA 60 ?_
  refine Go.Am.pcA h2 ?_
  refine goA 60 ?_
  refine Go.Am.pcA h3 ?_
  refine goB hX 0 (by conv => lhs; cbv; try simp only [k1, n0]; cbv; try simp only [k1, n0]; cbv; try simp only [k1, n0]; cbv; try simp only [k1, n0]; cbv) ?_
  refine goA 60 ?_
  refine fn_ret rfl rfl (.val ?_)
  exact congrArg (Value.int .i64) hR.symm
 | true =>
 rw [if_neg (by decide)] at hR
 refine goA 60 ?_
 refine Go.Am.pcA h1 ?_
 refine goB hX 0 (by conv => lhs; cbv; try simp only [k1, n1]; cbv; try simp only [k1, n1]; cbv; try simp only [k1, n1]; cbv; try simp only [k1, n1]; cbv) ?_
 refine goA 60 ?_
 refine Go.Am.pcA h2 ?_
 refine goA 60 ?_
 refine Go.Am.pcA h3 ?_
 refine goB hX 0 (by conv => lhs; cbv; try simp only [k1, n1]; cbv; try simp only [k1, n1]; cbv; try simp only [k1, n1]; cbv; try simp only [k1, n1]; cbv) ?_
 refine goA 60 ?_
 refine on_loopP (ι := List Pat × List Pat × Int × Int × Int) (fun p => ([(7, int p.2.2.1), (4, .isl 14 es), (5, int p.2.2.2.1), (6, int p.2.2.2.2)], [])) (fun p => nl = p.1 ++ p.2.1 ∧ p.2.2.1 = p.1.length ∧ p.2.2.2.1 = (cfold p.1).1 ∧ p.2.2.2.2 = (cfold p.1).2.1 ∧ (cfold p.1).2.2 = true) (fun p => p.2.1.length) ([], nl, 0, 0, 0) ⟨rfl, rfl, rfl, rfl, rfl⟩ ?_ ?_
 · exact (ent_sub [.gone] [] ⟨trivial, trivial⟩ trivial ⟨.refl _, .cl hnc, .refl _, .refl _, trivial⟩)
 rintro ⟨d, r, i, vs, sc⟩ ⟨g1, gi, gv, gs, gok⟩
 dsimp only at g1 gi gv gs gok ⊢
 cases r with
 | nil =>
  have L1 := len_split g1
  try simp only [List.length] at L1
  have hc : iLt i (lenA es) = false := lt_f e_iLt e_lenA (by omega)
  rw [List.append_nil] at g1
  have gR : R = 0 := by rw [hR, g1, if_pos gok]
  refine goB hX 0 (by conv => lhs; cbv; try simp only [hc]; cbv; try simp only [hc]; cbv; try simp only [hc]; cbv; try simp only [hc]; cbv) ?_
  refine goA 60 ?_
  refine loopP_exit ?_
  refine goA 60 ?_
  refine fn_ret rfl rfl (.val ?_)
  exact congrArg (Value.int .i64) gR.symm
 | cons q r =>
  have L1 := len_split g1
  try simp only [List.length] at L1
  have hc : iLt i (lenA es) = true := lt_t e_iLt e_lenA (by omega)
  have hat := el_at e_atA hes g1 gi
  have hb := cfold_bd d
  have hbad : (cfold (d ++ [q])).2.2 = false → R = 14 := fun h => by
   rw [hR, if_neg]
   intro hh
   rw [g1, show d ++ q :: r = (d ++ [q]) ++ r by simp] at hh
   rw [cfold_pre _ _ hh] at h; cases h
  have e1 : (cfold (d ++ [q])).1 = _ := congrArg (fun s => s.1) (cfold_snoc d q)
  have e2 : (cfold (d ++ [q])).2.1 = _ := congrArg (fun s => s.2.1) (cfold_snoc d q)
  have e3 : (cfold (d ++ [q])).2.2 = _ := congrArg (fun s => s.2.2) (cfold_snoc d q)
  dsimp only [cstep] at e1 e2 e3
  rw [gok, ← gv, ← gs] at e3
  rw [← gv] at e1
  rw [← gs] at e2
  have q1 := P_variable q
  have q2 := P_Negates q
  have q3 := P_Times q
  have hor := scopeF_or q.op
  generalize scopeF q.op = sf at *
  generalize typedF q.op = tf at *
  generalize decide (q.op = 5 ∨ q.op = 9) = ng at *
  generalize spanF q.op = sp at *
  have hqc := Pat.closed q
  obtain ⟨qO, qA, qT, qV, qS, qN, qCo, qCa, qCv, qCf, qCk, qXk, qXn, qXt, hy, hyc, hqO, hqA, hqT, hqV, hqS, hqN⟩ := Pat.form2 q
  rw [hy] at hat hqc q1 q2 q3
  rw [← hqV] at e3
  rw [← hqS] at e3
  have hi2 : iAdd .i64 i 1 = ((d ++ [q]).length : Int) := by rw [List.length_append]; exact inc_w e_iAdd gi (by omega)
  have a1 : iAdd .i64 vs 1 = vs + 1 := add_w e_iAdd (by omega) (by omega)
  have a2 : iAdd .i64 sc 1 = sc + 1 := add_w e_iAdd (by omega) (by omega)
  clear hy hyc hqO hqA hqT hqV hqS hqN hR gok gv gs hb
  refine goB hX 0 (by conv => lhs; cbv; try simp only [hc, hat]; cbv; try simp only [hc, hat]; cbv; try simp only [hc, hat]; cbv; try simp only [hc, hat]; cbv) ?_
  refine goB hX 1 (by conv => lhs; cbv; try simp only [hc, hat]; cbv; try simp only [hc, hat]; cbv; try simp only [hc, hat]; cbv; try simp only [hc, hat]; cbv) ?_
  refine Go.Am.pcA q1 ?_
  refine goB hX 0 (by conv => lhs; cbv; try simp only [hc, hat]; cbv; try simp only [hc, hat]; cbv; try simp only [hc, hat]; cbv; try simp only [hc, hat]; cbv) ?_
  refine on_cond rfl (fun c1 => ?_) (fun c1 => ?_)
  ·
   refine goB hX 0 (by conv => lhs; cbv; try simp only [hc, hat]; cbv; try simp only [hc, hat]; cbv; try simp only [hc, hat]; cbv; try simp only [hc, hat]; cbv) ?_
   refine on_cond rfl (fun c2 => ?_) (fun c2 => ?_)
   ·
    simp [ee] at c2
    refine goA 60 ?_
    refine loopP_ret ?_
    refine goA 60 ?_
    refine fn_ret rfl rfl (.val ?_)
    exact congrArg (Value.int .i64) (Eq.symm (hbad (by clear ee hX; grind)))
   ·
    simp [ee] at c2
    refine goB hX 0 (by conv => lhs; cbv; try simp only [hc, hat]; cbv; try simp only [hc, hat]; cbv; try simp only [hc, hat]; cbv; try simp only [hc, hat]; cbv) ?_
    refine Go.Am.pcA q2 ?_
    refine goB hX 0 (by conv => lhs; cbv; try simp only [hc, hat]; cbv; try simp only [hc, hat]; cbv; try simp only [hc, hat]; cbv; try simp only [hc, hat]; cbv) ?_
    refine on_guard rfl rfl (fun c3 => ?_) (fun c3 => ?_)
    ·
     refine goB hX 1 (by conv => lhs; cbv; try simp only [hc, hat]; cbv; try simp only [hc, hat]; cbv; try simp only [hc, hat]; cbv; try simp only [hc, hat]; cbv) ?_
     refine goB hX 1 (by conv => lhs; cbv; try simp only [hc, hat]; cbv; try simp only [hc, hat]; cbv; try simp only [hc, hat]; cbv; try simp only [hc, hat]; cbv) ?_
     refine goB hX 1 (by conv => lhs; cbv; try simp only [hc, hat]; cbv; try simp only [hc, hat]; cbv; try simp only [hc, hat]; cbv; try simp only [hc, hat]; cbv) ?_
     refine goB hX 1 (by conv => lhs; cbv; try simp only [hc, hat]; cbv; try simp only [hc, hat]; cbv; try simp only [hc, hat]; cbv; try simp only [hc, hat]; cbv) ?_
     refine goB hX 1 (by conv => lhs; cbv; try simp only [hc, hat]; cbv; try simp only [hc, hat]; cbv; try simp only [hc, hat]; cbv; try simp only [hc, hat]; cbv) ?_
     refine goB hX 1 (by conv => lhs; cbv; try simp only [hc, hat]; cbv; try simp only [hc, hat]; cbv; try simp only [hc, hat]; cbv; try simp only [hc, hat]; cbv) ?_
     refine on_cond rfl (fun c4 => ?_) (fun c4 => ?_)
     ·
      simp [ee] at c4
      refine goA 60 ?_
      refine loopP_ret ?_
      refine goA 60 ?_
      refine fn_ret rfl rfl (.val ?_)
      exact congrArg (Value.int .i64) (Eq.symm (hbad (by clear ee hX; grind)))
     ·
      simp [ee] at c4
      refine goA 60 ?_
      refine loopP_next (d ++ [q], r, iAdd .i64 i 1, iAdd .i64 vs 1, iAdd .i64 sc 1) ⟨by simp [g1], hi2, by clear ee hX; grind, by clear ee hX; grind, by clear ee hX; grind⟩ (by simp) (ent_sub [] [] trivial trivial ⟨.refl _, .cl hnc, .refl _, .refl _, trivial⟩)
    ·
     refine goB hX 1 (by conv => lhs; cbv; try simp only [hc, hat]; cbv; try simp only [hc, hat]; cbv; try simp only [hc, hat]; cbv; try simp only [hc, hat]; cbv) ?_
     refine goB hX 1 (by conv => lhs; cbv; try simp only [hc, hat]; cbv; try simp only [hc, hat]; cbv; try simp only [hc, hat]; cbv; try simp only [hc, hat]; cbv) ?_
     refine goB hX 1 (by conv => lhs; cbv; try simp only [hc, hat]; cbv; try simp only [hc, hat]; cbv; try simp only [hc, hat]; cbv; try simp only [hc, hat]; cbv) ?_
     refine goA 60 ?_
     refine Go.Am.pcG q3 ?_
     refine goB hX 0 (by conv => lhs; cbv; try simp only [hc, hat]; cbv; try simp only [hc, hat]; cbv; try simp only [hc, hat]; cbv; try simp only [hc, hat]; cbv) ?_
     refine on_cond rfl (fun c5 => ?_) (fun c5 => ?_)
     ·
      refine goB hX 0 (by conv => lhs; cbv; try simp only [hc, hat]; cbv; try simp only [hc, hat]; cbv; try simp only [hc, hat]; cbv; try simp only [hc, hat]; cbv) ?_
      refine on_cond rfl (fun c6 => ?_) (fun c6 => ?_)
      ·
       simp [ee] at c6
       refine goA 60 ?_
       refine loopP_ret ?_
       refine goA 60 ?_
       refine fn_ret rfl rfl (.val ?_)
       exact congrArg (Value.int .i64) (Eq.symm (hbad (by clear ee hX; grind)))
      ·
       simp [ee] at c6
       refine goA 60 ?_
       refine loopP_next (d ++ [q], r, iAdd .i64 i 1, iAdd .i64 vs 1, iAdd .i64 sc 1) ⟨by simp [g1], hi2, by clear ee hX; grind, by clear ee hX; grind, by clear ee hX; grind⟩ (by simp) (ent_sub [] [] trivial trivial ⟨.refl _, .cl hnc, .refl _, .refl _, trivial⟩)
     ·
      refine goA 60 ?_
      refine loopP_next (d ++ [q], r, iAdd .i64 i 1, iAdd .i64 vs 1, sc) ⟨by simp [g1], hi2, by clear ee hX; grind, by clear ee hX; grind, by clear ee hX; grind⟩ (by simp) (ent_sub [] [] trivial trivial ⟨.refl _, .cl hnc, .refl _, .refl _, trivial⟩)
  ·
   refine goB hX 0 (by conv => lhs; cbv; try simp only [hc, hat]; cbv; try simp only [hc, hat]; cbv; try simp only [hc, hat]; cbv; try simp only [hc, hat]; cbv) ?_
   refine Go.Am.pcA q2 ?_
   refine goB hX 0 (by conv => lhs; cbv; try simp only [hc, hat]; cbv; try simp only [hc, hat]; cbv; try simp only [hc, hat]; cbv; try simp only [hc, hat]; cbv) ?_
   refine on_guard rfl rfl (fun c7 => ?_) (fun c7 => ?_)
   ·
    refine goB hX 1 (by conv => lhs; cbv; try simp only [hc, hat]; cbv; try simp only [hc, hat]; cbv; try simp only [hc, hat]; cbv; try simp only [hc, hat]; cbv) ?_
    refine goB hX 1 (by conv => lhs; cbv; try simp only [hc, hat]; cbv; try simp only [hc, hat]; cbv; try simp only [hc, hat]; cbv; try simp only [hc, hat]; cbv) ?_
    refine goB hX 1 (by conv => lhs; cbv; try simp only [hc, hat]; cbv; try simp only [hc, hat]; cbv; try simp only [hc, hat]; cbv; try simp only [hc, hat]; cbv) ?_
    refine goB hX 1 (by conv => lhs; cbv; try simp only [hc, hat]; cbv; try simp only [hc, hat]; cbv; try simp only [hc, hat]; cbv; try simp only [hc, hat]; cbv) ?_
    refine goB hX 1 (by conv => lhs; cbv; try simp only [hc, hat]; cbv; try simp only [hc, hat]; cbv; try simp only [hc, hat]; cbv; try simp only [hc, hat]; cbv) ?_
    refine goB hX 1 (by conv => lhs; cbv; try simp only [hc, hat]; cbv; try simp only [hc, hat]; cbv; try simp only [hc, hat]; cbv; try simp only [hc, hat]; cbv) ?_
    refine on_cond rfl (fun c8 => ?_) (fun c8 => ?_)
    ·
     simp [ee] at c8
     refine goA 60 ?_
     refine loopP_ret ?_
     refine goA 60 ?_
     refine fn_ret rfl rfl (.val ?_)
     exact congrArg (Value.int .i64) (Eq.symm (hbad (by clear ee hX; grind)))
    ·
     simp [ee] at c8
     refine goA 60 ?_
     refine loopP_next (d ++ [q], r, iAdd .i64 i 1, vs, iAdd .i64 sc 1) ⟨by simp [g1], hi2, by clear ee hX; grind, by clear ee hX; grind, by clear ee hX; grind⟩ (by simp) (ent_sub [] [] trivial trivial ⟨.refl _, .cl hnc, .refl _, .refl _, trivial⟩)
   ·
    refine goB hX 1 (by conv => lhs; cbv; try simp only [hc, hat]; cbv; try simp only [hc, hat]; cbv; try simp only [hc, hat]; cbv; try simp only [hc, hat]; cbv) ?_
    refine goB hX 1 (by conv => lhs; cbv; try simp only [hc, hat]; cbv; try simp only [hc, hat]; cbv; try simp only [hc, hat]; cbv; try simp only [hc, hat]; cbv) ?_
    refine goB hX 1 (by conv => lhs; cbv; try simp only [hc, hat]; cbv; try simp only [hc, hat]; cbv; try simp only [hc, hat]; cbv; try simp only [hc, hat]; cbv) ?_
    refine goA 60 ?_
    refine Go.Am.pcG q3 ?_
    refine goB hX 0 (by conv => lhs; cbv; try simp only [hc, hat]; cbv; try simp only [hc, hat]; cbv; try simp only [hc, hat]; cbv; try simp only [hc, hat]; cbv) ?_
    refine on_cond rfl (fun c9 => ?_) (fun c9 => ?_)
    ·
     refine goB hX 0 (by conv => lhs; cbv; try simp only [hc, hat]; cbv; try simp only [hc, hat]; cbv; try simp only [hc, hat]; cbv; try simp only [hc, hat]; cbv) ?_
     refine on_cond rfl (fun c10 => ?_) (fun c10 => ?_)
     ·
      simp [ee] at c10
      refine goA 60 ?_
      refine loopP_ret ?_
      refine goA 60 ?_
      refine fn_ret rfl rfl (.val ?_)
      exact congrArg (Value.int .i64) (Eq.symm (hbad (by clear ee hX; grind)))
     ·
      simp [ee] at c10
      refine goA 60 ?_
      refine loopP_next (d ++ [q], r, iAdd .i64 i 1, vs, iAdd .i64 sc 1) ⟨by simp [g1], hi2, by clear ee hX; grind, by clear ee hX; grind, by clear ee hX; grind⟩ (by simp) (ent_sub [] [] trivial trivial ⟨.refl _, .cl hnc, .refl _, .refl _, trivial⟩)
    ·
     refine goA 60 ?_
     refine loopP_next (d ++ [q], r, iAdd .i64 i 1, vs, sc) ⟨by simp [g1], hi2, by clear ee hX; grind, by clear ee hX; grind, by clear ee hX; grind⟩ (by simp) (ent_sub [] [] trivial trivial ⟨.refl _, .cl hnc, .refl _, .refl _, trivial⟩)
def Ex.few (e : Ex) : Bool := decide (e.cnt ≤ 200) && decide (e.dep ≤ 100)
def Pat.few (p : Pat) : Bool := decide (p.cnt ≤ 150) && decide (p.dep ≤ 60) && p.nodes.all (fun q => q.cond.few)
theorem P_ref08_Few (e : Ex) (hs : e.Sm) : PCall EE 32 [e.enc] (bool e.few) := by
 have h1 : PCall EE 56 [e.enc, int 200] (int (e.tot 200)) := P_ref08_Count 200 (by omega) e hs
 have h2 := P_ref08_Depth e hs
 have hcl := Ex.closed e
 obtain ⟨R, hR⟩ : ∃ R, R = e.few := ⟨_, rfl⟩
 rw [← hR]
 unfold Ex.few at hR
 have ht := Ex.tot_iff e 200
 obtain ⟨eO, eA, eV, eF, eK, eXk, eXn, eXt, hx⟩ := Ex.form e
 rw [hx] at h1 h2 hcl ⊢
 refine wordsN ?_; unhygienic intros
 generalize ht1 : (e.tot 200 : Int) = tn at *
 generalize ht2 : (e.dep : Int) = dn at *
 refine fn_body (fn := Tryz.f32) (n := 11) (ac := Tryzc32) (rvs := [.t 2]) rfl (by decide) Tryzp32 rfl rfl rfl ?_
 by_cases hc1 : e.cnt ≤ 200
 · have w1 : iLe tn 200 = true := by simp only [ee]; simp; omega
   by_cases hc2 : e.dep ≤ 100
   · have w2 : iLe dn 100 = true := by simp only [ee]; simp; omega
     have hR : R = true := by rw [hR]; simp [hc1, hc2]
     refine goA 60 ?_
     refine Go.Am.pcA h1 ?_
     refine goB hX 0 (by conv => lhs; cbv; try simp only [w1, w2]; cbv; try simp only [w1, w2]; cbv; try simp only [w1, w2]; cbv; try simp only [w1, w2]; cbv) ?_
     refine goA 60 ?_
     refine Go.Am.pcG h2 ?_
     refine goA 60 ?_
     refine fn_ret rfl rfl (.val ?_)
     exact congrArg Value.bool (by rw [w2, hR]; simp [ee])
   · have w2 : iLe dn 100 = false := by simp only [ee]; simp; omega
     have hR : R = false := by rw [hR]; simp [hc2]
     refine goA 60 ?_
     refine Go.Am.pcA h1 ?_
     refine goB hX 0 (by conv => lhs; cbv; try simp only [w1, w2]; cbv; try simp only [w1, w2]; cbv; try simp only [w1, w2]; cbv; try simp only [w1, w2]; cbv) ?_
     refine goA 60 ?_
     refine Go.Am.pcG h2 ?_
     refine goA 60 ?_
     refine fn_ret rfl rfl (.val ?_)
     exact congrArg Value.bool (by rw [w2, hR]; simp [ee])
 · have w1 : iLe tn 200 = false := by simp only [ee]; simp; omega
   have hR : R = false := by rw [hR]; simp [hc1]
   refine goA 60 ?_
   refine Go.Am.pcA h1 ?_
   refine goB hX 0 (by conv => lhs; cbv; try simp only [w1]; cbv; try simp only [w1]; cbv; try simp only [w1]; cbv; try simp only [w1]; cbv) ?_
   refine goA 60 ?_
   refine on_gskip rfl rfl ?_
   refine goA 60 ?_
   refine fn_ret rfl rfl (.val ?_)
   exact congrArg Value.bool hR.symm
theorem P_ref09_Few (p : Pat) (hs : p.Sm) : PCall EE 18 [p.enc] (bool p.few) := by
 have h1 : PCall EE 39 [p.enc, int 150] (int (p.tot 150)) := P_ref09_Total 150 (by omega) p hs
 have h2 := P_ref09_Depth p hs
 have h3 := P_ref09_Nodes p hs
 have hsn := hs.node
 have hnl := Pat.nodes_len p
 have hcn := hs.1
 have hcl := Pat.closed p
 have hcn2 := Pat.closedI p.nodes
 obtain ⟨R, hR⟩ : ∃ R, R = p.few := ⟨_, rfl⟩
 rw [← hR]
 unfold Pat.few at hR
 have ht := Pat.tot_iff p 150
 obtain ⟨pO, pA, pT, pV, pS, pN, pCo, pCa, pCv, pCf, pCk, pXk, pXn, pXt, hx⟩ := Pat.form p
 rw [hx] at h1 h2 h3 hcl ⊢
 refine wordsN ?_; unhygienic intros
 generalize ht1 : (p.tot 150 : Int) = tn at *
 generalize ht2 : (p.dep : Int) = dn at *
 generalize hnod : p.nodes = nl at *
 generalize hes : mapE Pat.enc nl = es at *
 have hel : es.length = nl.length := by rw [← hes, mapE_len]
 refine fn_body (fn := Tryz.f18) (n := 28) (ac := Tryzc18) (rvs := [.t 2]) rfl (by decide) Tryzp18 rfl rfl rfl ?_
 by_cases hc1 : p.cnt ≤ 150
 rotate_left
 · have w1 : iLt 150 tn = true := by simp only [ee]; simp; omega
   have hR : R = false := by rw [hR]; simp [hc1]
   refine goA 60 ?_
   refine Go.Am.pcA h1 ?_
   refine goB hX 0 (by conv => lhs; cbv; try simp only [w1]; cbv; try simp only [w1]; cbv; try simp only [w1]; cbv; try simp only [w1]; cbv) ?_
   refine goA 60 ?_
   refine on_gskip rfl rfl ?_
   refine goA 60 ?_
   refine fn_ret rfl rfl (.val ?_)
   exact congrArg Value.bool hR.symm
 have w1 : iLt 150 tn = false := by simp only [ee]; simp; omega
 by_cases hc2 : p.dep ≤ 60
 rotate_left
 · have w2 : iLt 60 dn = true := by simp only [ee]; simp; omega
   have hR : R = false := by rw [hR]; simp [hc2]
   refine goA 60 ?_
   refine Go.Am.pcA h1 ?_
   refine goB hX 0 (by conv => lhs; cbv; try simp only [w1, w2]; cbv; try simp only [w1, w2]; cbv; try simp only [w1, w2]; cbv; try simp only [w1, w2]; cbv) ?_
   refine goA 60 ?_
   refine Go.Am.pcG h2 ?_
   refine goB hX 0 (by conv => lhs; cbv; try simp only [w1, w2]; cbv; try simp only [w1, w2]; cbv; try simp only [w1, w2]; cbv; try simp only [w1, w2]; cbv) ?_
   refine on_cond rfl (fun c1 => ?_) (fun c1 => ?_)
   ·
    simp [ee] at c1
    refine goA 60 ?_
    refine fn_ret rfl rfl (.val ?_)
    exact congrArg Value.bool hR.symm
   ·
    simp [ee] at c1
 have w2 : iLt 60 dn = false := by simp only [ee]; simp; omega
 have hR : R = nl.all (fun q => q.cond.few) := by rw [hR]; simp [hc1, hc2]
 have hor : ∀ b, bOr false b = b := by simp [ee]
 refine goA 60 ?_
 refine Go.Am.pcA h1 ?_
 refine goB hX 0 (by conv => lhs; cbv; try simp only [w1, w2, hor]; cbv; try simp only [w1, w2, hor]; cbv; try simp only [w1, w2, hor]; cbv; try simp only [w1, w2, hor]; cbv) ?_
 refine goA 60 ?_
 refine Go.Am.pcG h2 ?_
 refine goB hX 0 (by conv => lhs; cbv; try simp only [w1, w2, hor]; cbv; try simp only [w1, w2, hor]; cbv; try simp only [w1, w2, hor]; cbv; try simp only [w1, w2, hor]; cbv) ?_
 refine goA 60 ?_
 refine Go.Am.pcA h3 ?_
 refine goA 60 ?_
 refine on_loopP (ι := List Pat × List Pat × Int) (fun p => ([(3, .isl 14 es), (4, int p.2.2)], [])) (fun p => nl = p.1 ++ p.2.1 ∧ p.2.2 = p.1.length ∧ R = p.2.1.all (fun q => q.cond.few)) (fun p => p.2.1.length) ([], nl, 0) ⟨rfl, rfl, hR⟩ ?_ ?_
 · exact (ent_sub [.gone] [] ⟨trivial, trivial⟩ trivial ⟨.cl hcn2, .refl _, trivial⟩)
 rintro ⟨d, r, i⟩ ⟨g1, gi, gR⟩
 dsimp only at g1 gi gR ⊢
 cases r with
 | nil =>
  have L1 := len_split g1
  try simp only [List.length] at L1
  have hc : iLt i (lenA es) = false := lt_f e_iLt e_lenA (by omega)
  have gR : R = true := by rw [gR]; rfl
  refine goB hX 0 (by conv => lhs; cbv; try simp only [hc]; cbv; try simp only [hc]; cbv; try simp only [hc]; cbv; try simp only [hc]; cbv) ?_
  refine goA 60 ?_
  refine loopP_exit ?_
  refine goA 60 ?_
  refine fn_ret rfl rfl (.val ?_)
  exact congrArg Value.bool gR.symm
 | cons q r =>
  have L1 := len_split g1
  try simp only [List.length] at L1
  have hc : iLt i (lenA es) = true := lt_t e_iLt e_lenA (by omega)
  have hat := el_at e_atA hes g1 gi
  have hqs : q.Sm := hsn q (by rw [g1]; simp)
  have hq := P_ref08_Few q.cond hqs.cond'
  have hqc := Ex.closed q.cond
  rw [List.all_cons] at gR
  obtain ⟨qO, qA, qT, qV, qS, qN, qCo, qCa, qCv, qCf, qCk, qXk, qXn, qXt, hx2, hx2c, hqO, hqA, hqT, hqV, hqS, hqN⟩ := Pat.form2 q
  rw [hx2c] at hq hqc
  rw [hx2] at hat
  have hi2 : iAdd .i64 i 1 = ((d ++ [q]).length : Int) := by rw [List.length_append]; exact inc_w e_iAdd gi (by omega)
  cases hb : q.cond.few with
  | true =>
   rw [hb] at hq gR
   have hnt : bNot true = false := by simp [ee]
   refine goB hX 0 (by conv => lhs; cbv; try simp only [hc, hat, hnt]; cbv; try simp only [hc, hat, hnt]; cbv; try simp only [hc, hat, hnt]; cbv; try simp only [hc, hat, hnt]; cbv) ?_
   refine goB hX 1 (by conv => lhs; cbv; try simp only [hc, hat, hnt]; cbv; try simp only [hc, hat, hnt]; cbv; try simp only [hc, hat, hnt]; cbv; try simp only [hc, hat, hnt]; cbv) ?_
   refine Go.Am.pcA hq ?_
   refine goB hX 0 (by conv => lhs; cbv; try simp only [hc, hat, hnt]; cbv; try simp only [hc, hat, hnt]; cbv; try simp only [hc, hat, hnt]; cbv; try simp only [hc, hat, hnt]; cbv) ?_
   refine goA 60 ?_
   refine loopP_next (d ++ [q], r, iAdd .i64 i 1) ⟨by simp [g1], hi2, by simpa using gR⟩ (by simp) (ent_sub [] [] trivial trivial ⟨.cl hcn2, .refl _, trivial⟩)
  | false =>
   rw [hb] at hq gR
   have gR : R = false := by simpa using gR
   have hnf : bNot false = true := by simp [ee]
   refine goB hX 0 (by conv => lhs; cbv; try simp only [hc, hat, hnf]; cbv; try simp only [hc, hat, hnf]; cbv; try simp only [hc, hat, hnf]; cbv; try simp only [hc, hat, hnf]; cbv) ?_
   refine goB hX 1 (by conv => lhs; cbv; try simp only [hc, hat, hnf]; cbv; try simp only [hc, hat, hnf]; cbv; try simp only [hc, hat, hnf]; cbv; try simp only [hc, hat, hnf]; cbv) ?_
   refine Go.Am.pcA hq ?_
   refine goB hX 0 (by conv => lhs; cbv; try simp only [hc, hat, hnf]; cbv; try simp only [hc, hat, hnf]; cbv; try simp only [hc, hat, hnf]; cbv; try simp only [hc, hat, hnf]; cbv) ?_
   refine goA 60 ?_
   refine loopP_ret ?_
   refine goA 60 ?_
   refine fn_ret rfl rfl (.val ?_)
   exact congrArg Value.bool gR.symm
theorem lfL_fb {r : List Pat} (ih : ∀ e ∈ r, ∀ l l' : Plc, l.us = l'.us → l.si = l'.si → (Pat.lf l e).map (fun x => (x.1, x.2.us, x.2.si)) = (Pat.lf l' e).map fun x => (x.1, x.2.us, x.2.si)) : ∀ (b : Bool) (l l' : Plc), l.us = l'.us → l.si = l'.si → (Pat.lfL b l r).map (fun x => (x.1, x.2.us, x.2.si)) = (Pat.lfL b l' r).map fun x => (x.1, x.2.us, x.2.si) := by
 induction r with
 | nil => intro b l l' _ _; rw [Pat.lfL, Pat.lfL]
 | cons q r ihr =>
  intro b l l' h1 h2
  rw [Pat.lfL, Pat.lfL, List.map_append, List.map_append, ih q (by simp) l l' h1 h2]
  refine congrArg _ (ihr (fun e he => ih e (by simp [he])) b _ _ ?_ ?_)
  · cases b
    · exact h1
    · show uniI l.us q.bound = uniI l'.us q.bound; rw [h1]
  · cases b
    · exact h2
    · show uniI l.si q.ones = uniI l'.si q.ones; rw [h2]
theorem lf_fb : ∀ p : Pat, ∀ l l' : Plc, l.us = l'.us → l.si = l'.si → (Pat.lf l p).map (fun x => (x.1, x.2.us, x.2.si)) = (Pat.lf l' p).map fun x => (x.1, x.2.us, x.2.si) := Pat.ind fun o a t v s n c ih l l' h1 h2 => by
 rw [Pat.lf, Pat.lf, List.map_cons, List.map_cons, lfL_fb ih _ l l' h1 h2, h1, h2]
theorem own_fb (p : Pat) (k : Nat) : ((Pat.lf Plc0 p).getD k (Pat0, Plc0)).1.own ((Pat.lf Plc0 p).getD k (Pat0, Plc0)).2 = ((Pat.lf PlcS p).getD k (Pat0, Plc0)).1.own ((Pat.lf PlcS p).getD k (Pat0, Plc0)).2 := by
 have h := congrArg (fun L => L[k]?) (lf_fb p Plc0 PlcS rfl rfl)
 simp only [List.getElem?_map] at h
 rw [List.getD_eq_getElem?_getD, List.getD_eq_getElem?_getD]
 cases h1 : (Pat.lf Plc0 p)[k]? with
 | none =>
  cases h2 : (Pat.lf PlcS p)[k]? with
  | none => rfl
  | some y => rw [h1, h2] at h; cases h
 | some x =>
  cases h2 : (Pat.lf PlcS p)[k]? with
  | none => rw [h1, h2] at h; cases h
  | some y =>
   rw [h1, h2] at h
   simp only [Option.map_some, Option.some.injEq, Prod.mk.injEq] at h
   obtain ⟨e1, e2, e3⟩ := h
   show x.1.own x.2 = y.1.own y.2
   unfold Pat.own
   rw [e1, e2, e3]
theorem P_ref15_Few (p : Pat) (hs : p.Sm) : PCall EE 6 [p.enc] (bool p.few) := by
 have q1 := P_ref09_Few p hs
 have hcl := Pat.closed p
 generalize p.few = b at *
 obtain ⟨pO, pA, pT, pV, pS, pN, pCo, pCa, pCv, pCf, pCk, pXk, pXn, pXt, hx⟩ := Pat.form p
 rw [hx] at q1 hcl ⊢
 clear hx hs
 refine wordsN ?_; unhygienic intros
 refine fn_body (fn := Tryz.f6) (n := 5) (ac := Tryzc6) (rvs := [.t 2]) rfl (by decide) Tryzp6 rfl rfl rfl ?_
 refine goA 60 ?_
 refine Go.Am.pcA q1 ?_
 refine goA 60 ?_
 refine fn_ret rfl rfl (.val ?_)
 rfl
theorem P_ref15_At (p : Pat) (i : Int) (hs : p.Sm) : PCall EE 23 [p.enc, int i] (.tup [(p.atP i).enc, int (p.atE i)]) := by
 have q1 := P_ref09_Check p hs
 have q2 := P_ref09_Node p i hs
 have hcl := Pat.closed p
 have hz : Plc0.enc = .agg [.isl 1 [], .isl 1 [], int 0] := by
  unfold Plc.enc Plc0
  have : mapE int [] = [] := by rw [mapE_eq]; rfl
  dsimp only
  rw [this]
 by_cases hk : p.chk = 0
 rotate_left
 · have hE : p.atE i = p.chk := by unfold Pat.atE; rw [if_pos hk]
   have hP : p.atP i = Plc0 := by unfold Pat.atP; rw [if_neg (by rw [hE]; exact hk)]
   rw [hE, hP, hz]
   clear q2
   generalize p.chk = er at *
   obtain ⟨pO, pA, pT, pV, pS, pN, pCo, pCa, pCv, pCf, pCk, pXk, pXn, pXt, hx, hxc, hpO, hpA, hpT, hpV, hpS, hpN⟩ := Pat.form2 p
   rw [hx] at q1 hcl ⊢
   clear hx hs hE hP
   refine wordsN ?_; unhygienic intros
   have kc : iNe er 0 = true := by simp only [ee]; simpa using hk
   refine fn_body (fn := Tryz.f23) (n := 43) (ac := Tryzc23) (rvs := [.cell 4 3 true, .t 5]) rfl (by decide) Tryzp23 rfl rfl rfl ?_
   refine goA 60 ?_
   refine Go.Am.pcA q1 ?_
   refine goB hX 0 (by conv => lhs; cbv; try simp only [kc]; cbv; try simp only [kc]; cbv; try simp only [kc]; cbv; try simp only [kc]; cbv) ?_
   refine goA 60 ?_
   refine fn_ret rfl rfl ?_
   exact ⟨[.gone, .gone], ⟨trivial, trivial, trivial⟩, .tup' ⟨.agg' ⟨.nilI _, .nilI _, .refl _, trivial⟩, .refl _, trivial⟩⟩
 have hw := chk_wf hk
 have hcnt := (chkR_zero.1 (wholeE_ok (chk_zero hk).1).1).1
 have hn := p.nodes_len
 rw [hk] at q1
 have hqc := Pat.closed (p.nodeAt i)
 by_cases hi : 0 ≤ i ∧ i < p.nodes.length
 rotate_left
 · have hE : p.atE i = 6 := by unfold Pat.atE; rw [if_neg (fun k => k hk), if_neg hi]
   have hP : p.atP i = Plc0 := by unfold Pat.atP; rw [if_neg (by rw [hE]; decide)]
   have hN : p.nodeEr i = 6 := by unfold Pat.nodeEr; rw [if_neg hi]
   rw [hE, hP, hz]
   rw [hN] at q2
   generalize p.nodeAt i = q at *
   obtain ⟨qO, qA, qT, qV, qS, qN, qCo, qCa, qCv, qCf, qCk, qXk, qXn, qXt, hxq⟩ := Pat.form q
   rw [hxq] at q2 hqc
   obtain ⟨pO, pA, pT, pV, pS, pN, pCo, pCa, pCv, pCf, pCk, pXk, pXn, pXt, hx⟩ := Pat.form p
   rw [hx] at q1 q2 hcl ⊢
   clear hx hs hE hP hw hn hi hk hcnt hN hxq
   refine wordsN ?_; unhygienic intros
   have k0 : iNe 0 0 = false := by simp only [ee]; rfl
   have k6 : iNe 6 0 = true := by simp only [ee]; rfl
   refine fn_body (fn := Tryz.f23) (n := 43) (ac := Tryzc23) (rvs := [.cell 4 3 true, .t 5]) rfl (by decide) Tryzp23 rfl rfl rfl ?_
   refine goA 60 ?_
   refine Go.Am.pcA q1 ?_
   refine goB hX 0 (by conv => lhs; cbv; try simp only [k0, k6]; cbv; try simp only [k0, k6]; cbv; try simp only [k0, k6]; cbv; try simp only [k0, k6]; cbv) ?_
   refine goA 60 ?_
   refine Go.Am.pcA q2 ?_
   refine goB hX 0 (by conv => lhs; cbv; try simp only [k0, k6]; cbv; try simp only [k0, k6]; cbv; try simp only [k0, k6]; cbv; try simp only [k0, k6]; cbv) ?_
   refine goA 60 ?_
   refine fn_ret rfl rfl ?_
   exact ⟨[.gone, .gone, .gone], ⟨trivial, trivial, trivial, trivial⟩, .tup' ⟨.agg' ⟨.nilI _, .nilI _, .refl _, trivial⟩, .refl _, trivial⟩⟩
 have hN : p.nodeEr i = 0 := by unfold Pat.nodeEr; rw [if_pos hi]
 rw [hN] at q2
 have hx2 : ((Pat.lf PlcS p).getD i.toNat (Pat0, Plc0)).1 = p.nodeAt i := by rw [lf_at]; unfold Pat.nodeAt; rw [if_pos hi]
 have hE : p.atE i = if testsF (p.nodeAt i).op = true then 0 else 1 := by unfold Pat.atE; rw [if_neg (fun k => k hk), if_pos hi]
 by_cases ht : testsF (p.nodeAt i).op = true
 rotate_left
 · rw [if_neg ht] at hE
   have hP : p.atP i = Plc0 := by unfold Pat.atP; rw [if_neg (by rw [hE]; decide)]
   rw [hE, hP, hz]
   clear hx2
   generalize p.nodeAt i = q at *
   obtain ⟨qO, qA, qT, qV, qS, qN, qCo, qCa, qCv, qCf, qCk, qXk, qXn, qXt, hxq, hxqc, hqO, hqA, hqT, hqV, hqS, hqN⟩ := Pat.form2 q
   rw [hxq] at q2 hqc
   rw [← hqO] at ht
   obtain ⟨pO, pA, pT, pV, pS, pN, pCo, pCa, pCv, pCf, pCk, pXk, pXn, pXt, hx⟩ := Pat.form p
   rw [hx] at q1 q2 hcl ⊢
   clear hx hs hE hP hw hn hi hk hcnt hN hxq
   unfold testsF at ht
   refine wordsN ?_; unhygienic intros
   have k0 : iNe 0 0 = false := by simp only [ee]; rfl
   have k1 : iNe qO 0 = true := by simp only [ee]; simp at ht ⊢; omega
   have k2 : iNe qO 5 = true := by simp only [ee]; simp at ht ⊢; omega
   have k3 : iNe qO 7 = true := by simp only [ee]; simp at ht ⊢; omega
   refine fn_body (fn := Tryz.f23) (n := 43) (ac := Tryzc23) (rvs := [.cell 4 3 true, .t 5]) rfl (by decide) Tryzp23 rfl rfl rfl ?_
   refine goA 60 ?_
   refine Go.Am.pcA q1 ?_
   refine goB hX 0 (by conv => lhs; cbv; try simp only [k0, k1, k2, k3]; cbv; try simp only [k0, k1, k2, k3]; cbv; try simp only [k0, k1, k2, k3]; cbv; try simp only [k0, k1, k2, k3]; cbv) ?_
   refine goA 60 ?_
   refine Go.Am.pcA q2 ?_
   refine goB hX 0 (by conv => lhs; cbv; try simp only [k0, k1, k2, k3]; cbv; try simp only [k0, k1, k2, k3]; cbv; try simp only [k0, k1, k2, k3]; cbv; try simp only [k0, k1, k2, k3]; cbv) ?_
   refine goB hX 1 (by conv => lhs; cbv; try simp only [k0, k1, k2, k3]; cbv; try simp only [k0, k1, k2, k3]; cbv; try simp only [k0, k1, k2, k3]; cbv; try simp only [k0, k1, k2, k3]; cbv) ?_
   refine on_cond rfl (fun c1 => ?_) (fun c1 => ?_)
   ·
    simp [ee] at c1
    refine goA 60 ?_
    refine fn_ret rfl rfl ?_
    exact ⟨[.gone, .gone, .gone], ⟨trivial, trivial, trivial, trivial⟩, .tup' ⟨.agg' ⟨.nilI _, .nilI _, .refl _, trivial⟩, .refl _, trivial⟩⟩
   ·
    simp [ee] at c1
 rw [if_pos ht] at hE
 have hP : p.atP i = ((Pat.lf PlcS p).getD i.toNat (Pat0, Plc0)).1.own ((Pat.lf PlcS p).getD i.toNat (Pat0, Plc0)).2 := by unfold Pat.atP; rw [if_pos hE]
 have q3 := P_ref15_at p hs hw Plc0 ⟨fun _ h => (by cases h), fun _ h => (by cases h), by decide, by decide⟩ i hi.1 (by omega) (by omega) (by rw [lf_at, ← lf_at p PlcS, hx2]; exact ht)
 rw [own_fb, ← hP] at q3
 rw [hz] at q3
 rw [hE]
 simp only [Plc.enc] at q3 ⊢
 have r1 := closedI_int (p.atP i).us
 have r2 := closedI_int (p.atP i).si
 clear hx2 hP
 generalize mapE int (p.atP i).us = A1 at *
 generalize mapE int (p.atP i).si = A2 at *
 generalize (p.atP i).fb = f2 at *
 generalize p.nodeAt i = q at *
 obtain ⟨qO, qA, qT, qV, qS, qN, qCo, qCa, qCv, qCf, qCk, qXk, qXn, qXt, hxq, hxqc, hqO, hqA, hqT, hqV, hqS, hqN⟩ := Pat.form2 q
 rw [hxq] at q2 hqc
 rw [← hqO] at ht
 obtain ⟨pO, pA, pT, pV, pS, pN, pCo, pCa, pCv, pCf, pCk, pXk, pXn, pXt, hx⟩ := Pat.form p
 rw [hx] at q1 q2 q3 hcl ⊢
 replace q3 := q3.weak (args := [.agg [int pO, .isl 14 pA, int pT, int pV, int pS, int pN, int pCo, .isl 8 pCa, int pCv, int pCf, int pCk, int pXk, int pXn, str pXt], int i, .agg [.val (.slice none 0 0), .val (.slice none 0 0), int 0]]) ⟨.refl _, .refl _, .agg' ⟨.nilI _, .nilI _, .refl _, trivial⟩, trivial⟩
 clear hx hs hE hw hn hi hk hcnt hN hxq
 refine wordsN ?_; unhygienic intros
 have k0 : iNe 0 0 = false := by simp only [ee]; rfl
 rcases tests_or ht with h | h | h
 · have k1 : iNe qO 0 = false := by simp only [ee]; simpa using h
   refine fn_body (fn := Tryz.f23) (n := 43) (ac := Tryzc23) (rvs := [.cell 4 3 true, .t 5]) rfl (by decide) Tryzp23 rfl rfl rfl ?_
   refine goA 60 ?_
   refine Go.Am.pcA q1 ?_
   refine goB hX 0 (by conv => lhs; cbv; try simp only [k0, k1]; cbv; try simp only [k0, k1]; cbv; try simp only [k0, k1]; cbv; try simp only [k0, k1]; cbv) ?_
   refine goA 60 ?_
   refine Go.Am.pcA q2 ?_
   refine goB hX 0 (by conv => lhs; cbv; try simp only [k0, k1]; cbv; try simp only [k0, k1]; cbv; try simp only [k0, k1]; cbv; try simp only [k0, k1]; cbv) ?_
   refine goB hX 1 (by conv => lhs; cbv; try simp only [k0, k1]; cbv; try simp only [k0, k1]; cbv; try simp only [k0, k1]; cbv; try simp only [k0, k1]; cbv) ?_
   refine on_cond rfl (fun c1 => ?_) (fun c1 => ?_)
   ·
    simp [ee] at c1
   ·
    simp [ee] at c1
    refine goA 60 ?_
    refine Go.Am.pcA q3 ?_
    refine goA 60 ?_
    refine fn_ret rfl rfl ?_
    exact ⟨[.gone, .gone, .gone], ⟨trivial, trivial, trivial, trivial⟩, .tup' ⟨.agg' ⟨.cl r1, .cl r2, .refl _, trivial⟩, .refl _, trivial⟩⟩
 · have k1 : iNe qO 0 = true := by simp only [ee]; simp; omega
   have k2 : iNe qO 5 = false := by simp only [ee]; simpa using h
   refine fn_body (fn := Tryz.f23) (n := 43) (ac := Tryzc23) (rvs := [.cell 4 3 true, .t 5]) rfl (by decide) Tryzp23 rfl rfl rfl ?_
   refine goA 60 ?_
   refine Go.Am.pcA q1 ?_
   refine goB hX 0 (by conv => lhs; cbv; try simp only [k0, k1, k2]; cbv; try simp only [k0, k1, k2]; cbv; try simp only [k0, k1, k2]; cbv; try simp only [k0, k1, k2]; cbv) ?_
   refine goA 60 ?_
   refine Go.Am.pcA q2 ?_
   refine goB hX 0 (by conv => lhs; cbv; try simp only [k0, k1, k2]; cbv; try simp only [k0, k1, k2]; cbv; try simp only [k0, k1, k2]; cbv; try simp only [k0, k1, k2]; cbv) ?_
   refine goB hX 1 (by conv => lhs; cbv; try simp only [k0, k1, k2]; cbv; try simp only [k0, k1, k2]; cbv; try simp only [k0, k1, k2]; cbv; try simp only [k0, k1, k2]; cbv) ?_
   refine on_cond rfl (fun c1 => ?_) (fun c1 => ?_)
   ·
    simp [ee] at c1
   ·
    simp [ee] at c1
    refine goA 60 ?_
    refine Go.Am.pcA q3 ?_
    refine goA 60 ?_
    refine fn_ret rfl rfl ?_
    exact ⟨[.gone, .gone, .gone], ⟨trivial, trivial, trivial, trivial⟩, .tup' ⟨.agg' ⟨.cl r1, .cl r2, .refl _, trivial⟩, .refl _, trivial⟩⟩
 · have k1 : iNe qO 0 = true := by simp only [ee]; simp; omega
   have k2 : iNe qO 5 = true := by simp only [ee]; simp; omega
   have k3 : iNe qO 7 = false := by simp only [ee]; simpa using h
   refine fn_body (fn := Tryz.f23) (n := 43) (ac := Tryzc23) (rvs := [.cell 4 3 true, .t 5]) rfl (by decide) Tryzp23 rfl rfl rfl ?_
   refine goA 60 ?_
   refine Go.Am.pcA q1 ?_
   refine goB hX 0 (by conv => lhs; cbv; try simp only [k0, k1, k2, k3]; cbv; try simp only [k0, k1, k2, k3]; cbv; try simp only [k0, k1, k2, k3]; cbv; try simp only [k0, k1, k2, k3]; cbv) ?_
   refine goA 60 ?_
   refine Go.Am.pcA q2 ?_
   refine goB hX 0 (by conv => lhs; cbv; try simp only [k0, k1, k2, k3]; cbv; try simp only [k0, k1, k2, k3]; cbv; try simp only [k0, k1, k2, k3]; cbv; try simp only [k0, k1, k2, k3]; cbv) ?_
   refine goB hX 1 (by conv => lhs; cbv; try simp only [k0, k1, k2, k3]; cbv; try simp only [k0, k1, k2, k3]; cbv; try simp only [k0, k1, k2, k3]; cbv; try simp only [k0, k1, k2, k3]; cbv) ?_
   refine on_cond rfl (fun c1 => ?_) (fun c1 => ?_)
   ·
    simp [ee] at c1
   ·
    simp [ee] at c1
    refine goA 60 ?_
    refine Go.Am.pcA q3 ?_
    refine goA 60 ?_
    refine fn_ret rfl rfl ?_
    exact ⟨[.gone, .gone, .gone], ⟨trivial, trivial, trivial, trivial⟩, .tup' ⟨.agg' ⟨.cl r1, .cl r2, .refl _, trivial⟩, .refl _, trivial⟩⟩
theorem P_ref15_Usable (p : Pat) (i : Int) (hs : p.Sm) : PCall EE 9 [p.enc, int i] (.tup [.isl 1 (mapE int (p.atP i).us), int (p.atE i)]) := by
 have q1 := P_ref15_At p i hs
 have hcl := Pat.closed p
 simp only [Plc.enc] at q1
 have r1 := closedI_int (p.atP i).us
 have r2 := closedI_int (p.atP i).si
 generalize mapE int (p.atP i).us = A1 at *
 generalize mapE int (p.atP i).si = A2 at *
 generalize (p.atP i).fb = f2 at *
 generalize p.atE i = er at *
 obtain ⟨pO, pA, pT, pV, pS, pN, pCo, pCa, pCv, pCf, pCk, pXk, pXn, pXt, hx, hxc, hpO, hpA, hpT, hpV, hpS, hpN⟩ := Pat.form2 p
 rw [hx] at q1 hcl ⊢
 clear hx hs
 refine wordsN ?_; unhygienic intros
 refine fn_body (fn := Tryz.f9) (n := 17) (ac := Tryzc9) (rvs := [.t 4, .t 5]) rfl (by decide) Tryzp9 rfl rfl rfl ?_
 refine goA 60 ?_
 refine Go.Am.pcA q1 ?_
 refine goA 60 ?_
 refine fn_ret rfl rfl ?_
 exact ⟨[.gone, .gone], ⟨trivial, trivial, trivial⟩, .tup' ⟨.cl r1, .refl _, trivial⟩⟩
theorem P_ref15_Single (p : Pat) (i : Int) (hs : p.Sm) : PCall EE 11 [p.enc, int i] (.tup [.isl 1 (mapE int (p.atP i).si), int (p.atE i)]) := by
 have q1 := P_ref15_At p i hs
 have hcl := Pat.closed p
 simp only [Plc.enc] at q1
 have r1 := closedI_int (p.atP i).us
 have r2 := closedI_int (p.atP i).si
 generalize mapE int (p.atP i).us = A1 at *
 generalize mapE int (p.atP i).si = A2 at *
 generalize (p.atP i).fb = f2 at *
 generalize p.atE i = er at *
 obtain ⟨pO, pA, pT, pV, pS, pN, pCo, pCa, pCv, pCf, pCk, pXk, pXn, pXt, hx, hxc, hpO, hpA, hpT, hpV, hpS, hpN⟩ := Pat.form2 p
 rw [hx] at q1 hcl ⊢
 clear hx hs
 refine wordsN ?_; unhygienic intros
 refine fn_body (fn := Tryz.f11) (n := 17) (ac := Tryzc11) (rvs := [.t 4, .t 5]) rfl (by decide) Tryzp11 rfl rfl rfl ?_
 refine goA 60 ?_
 refine Go.Am.pcA q1 ?_
 refine goA 60 ?_
 refine fn_ret rfl rfl ?_
 exact ⟨[.gone, .gone], ⟨trivial, trivial, trivial⟩, .tup' ⟨.cl r2, .refl _, trivial⟩⟩
theorem P_ref15_Check (p : Pat) (hs : p.Sm) : PCall EE 14 [p.enc] (.tup [int p.scI, int p.scE]) := by
 have q1 := P_ref09_Check p hs
 have hcl := Pat.closed p
 by_cases hk : p.chk = 0
 rotate_left
 · have hE : p.scE = p.chk := by unfold Pat.scE; rw [if_pos hk]
   have hI : p.scI = 0 := by unfold Pat.scI; rw [if_pos hk]
   rw [hE, hI]
   generalize p.chk = er at *
   obtain ⟨pO, pA, pT, pV, pS, pN, pCo, pCa, pCv, pCf, pCk, pXk, pXn, pXt, hx, hxc, hpO, hpA, hpT, hpV, hpS, hpN⟩ := Pat.form2 p
   rw [hx] at q1 hcl ⊢
   clear hx hs hE hI
   refine wordsN ?_; unhygienic intros
   have kc : iNe er 0 = true := by simp only [ee]; simpa using hk
   refine fn_body (fn := Tryz.f14) (n := 42) (ac := Tryzc14) (rvs := [.t 2, .t 3]) rfl (by decide) Tryzp14 rfl rfl rfl ?_
   refine goA 60 ?_
   refine Go.Am.pcA q1 ?_
   refine goB hX 0 (by conv => lhs; cbv; try simp only [kc]; cbv; try simp only [kc]; cbv; try simp only [kc]; cbv; try simp only [kc]; cbv) ?_
   refine goA 60 ?_
   refine fn_ret rfl rfl ?_
   exact ⟨[.gone], ⟨trivial, trivial⟩, .refl _⟩
 have hw := chk_wf hk
 have hcnt := (chkR_zero.1 (wholeE_ok (chk_zero hk).1).1).1
 have q2 := P_ref09_Nodes p hs
 have hq3 := fun i : Int => P_ref15_At p i hs
 have hnc := Pat.closedI p.nodes
 have hll := Pat.lf_len p PlcS
 have hnl := p.nodes_len
 have hnode : ∀ q ∈ p.nodes, q.Sm := hs.node
 have hok := Pat.lf_ok p hw PlcS PlcS_ok
 have hmap := Pat.lf_map p PlcS
 have hatE : ∀ (d : List (Pat × Plc)) (x : Pat × Plc) (r : List (Pat × Plc)), Pat.lf PlcS p = d ++ x :: r → p.atE d.length = (if testsF x.1.op = true then 0 else 1) ∧ p.atP d.length = (if testsF x.1.op = true then x.1.own x.2 else Plc0) := by
  intro d x r h
  have hlen : d.length < p.nodes.length := by rw [hnl, ← hll, h]; simp
  have hg : (Pat.lf PlcS p).getD d.length (Pat0, Plc0) = x := by rw [h, List.getD_eq_getElem?_getD]; simp
  have hno : p.nodeAt d.length = x.1 := by
   unfold Pat.nodeAt
   rw [if_pos ⟨by omega, by omega⟩, ← hg, lf_at]; rfl
  have h1 : p.atE d.length = if testsF x.1.op = true then 0 else 1 := by
   unfold Pat.atE
   rw [if_neg (fun k => k hk), if_pos ⟨by omega, by omega⟩, hno]
  refine ⟨h1, ?_⟩
  unfold Pat.atP
  rw [h1, show (d.length : Int).toNat = d.length from rfl, hg]
  by_cases ht : testsF x.1.op = true
  · rw [if_pos ht, if_pos ht, if_pos rfl]
  · rw [if_neg ht, if_neg ht, if_neg (by decide)]
 rw [hk] at q1
 have hE : p.scE = firstE condE (Pat.lf PlcS p) := by unfold Pat.scE; rw [if_neg (fun k => k hk)]
 have hI : p.scI = idxE condE (Pat.lf PlcS p) := by unfold Pat.scI; rw [if_neg (fun k => k hk)]
 obtain ⟨R, hR⟩ : ∃ R, R = p.scE := ⟨_, rfl⟩
 obtain ⟨J, hJ⟩ : ∃ J, J = p.scI := ⟨_, rfl⟩
 rw [← hR, ← hJ]
 rw [hE] at hR
 rw [hI] at hJ
 have hJ2 : J = if R ≠ 0 then 0 + idxE condE (Pat.lf PlcS p) else 0 := by
  by_cases h : R = 0
  · rw [if_neg (fun k => k h), hJ, idx_zero (hR ▸ h)]
  · rw [if_pos h, hJ]; omega
 clear hE hI hJ
 obtain ⟨L, hL⟩ : ∃ L, L = Pat.lf PlcS p := ⟨_, rfl⟩
 rw [← hL] at hR hJ2 hatE hmap hok hll
 have hz : Plc0.enc = .agg [.isl 1 [], .isl 1 [], int 0] := by
  unfold Plc.enc Plc0
  have : mapE int [] = [] := by rw [mapE_eq]; rfl
  dsimp only
  rw [this]
 obtain ⟨pO, pA, pT, pV, pS, pN, pCo, pCa, pCv, pCf, pCk, pXk, pXn, pXt, hx, hxc, hpO, hpA, hpT, hpV, hpS, hpN⟩ := Pat.form2 p
 rw [hx] at q1 q2 hcl hq3 ⊢
 have hpAI : (AV.isl 14 pA).closed = true := by have := hcl; simp [AV.closed, AV.closedL] at this ⊢; exact this.1
 have hpCI : (AV.isl 8 pCa).closed = true := by have := hcl; simp [AV.closed, AV.closedL] at this ⊢; exact this.2
 refine wordsN ?_; unhygienic intros
 generalize hes : mapE Pat.enc p.nodes = ns at *
 have hel : ns.length = L.length := by rw [← hes, mapE_len, hnl, hll]
 have k0 : iNe 0 0 = false := by simp only [ee]; rfl
 have k1 : iNe 1 0 = true := by simp only [ee]; rfl
 refine fn_body (fn := Tryz.f14) (n := 42) (ac := Tryzc14) (rvs := [.t 2, .t 3]) rfl (by decide) Tryzp14 rfl rfl rfl ?_
 refine goA 60 ?_
 refine Go.Am.pcA q1 ?_
 refine goB hX 0 (by conv => lhs; cbv; try simp only [k0]; cbv; try simp only [k0]; cbv; try simp only [k0]; cbv; try simp only [k0]; cbv) ?_
 refine goA 60 ?_
 refine Go.Am.pcA q2 ?_
 refine goA 60 ?_
 refine on_loopP (ι := List (Pat × Plc) × List (Pat × Plc) × Int) (fun p => ([(6, int p.2.2), (5, .isl 14 ns), (1, .ptr 0 0)], [.cells [int pO, .isl 14 pA, int pT, int pV, int pS, int pN, int pCo, .isl 8 pCa, int pCv, int pCf, int pCk, int pXk, int pXn, str pXt]])) (fun p => L = p.1 ++ p.2.1 ∧ p.2.2 = p.1.length ∧ R = firstE condE p.2.1 ∧ J = (if R ≠ 0 then p.2.2 + idxE condE p.2.1 else 0)) (fun p => p.2.1.length) ([], L, 0) ⟨rfl, rfl, hR, hJ2⟩ ?_ ?_
 · exact (ent_sub [.to 0] [some 0] ⟨⟨by simp, rfl⟩, trivial⟩ ⟨osrc_cells (b := 0) rfl rfl rfl ⟨.refl _, .cl hpAI, .refl _, .refl _, .refl _, .refl _, .refl _, .cl hpCI, .refl _, .refl _, .refl _, .refl _, .refl _, .refl _, trivial⟩, trivial⟩ ⟨.refl _, .cl hnc, .refl _, trivial⟩)
 rintro ⟨d, r, i⟩ ⟨g1, gi, gR, gJ⟩
 dsimp only at g1 gi gR gJ ⊢
 cases r with
 | nil =>
  have L1 := len_split g1
  try simp only [List.length] at L1
  have hc : iLt i (lenA ns) = false := lt_f e_iLt e_lenA (by omega)
  have gR : R = 0 := gR
  subst gR
  have gJ : J = 0 := gJ
  subst gJ
  refine goB hX 0 (by conv => lhs; cbv; try simp only [hc]; cbv; try simp only [hc]; cbv; try simp only [hc]; cbv; try simp only [hc]; cbv) ?_
  refine goA 60 ?_
  refine loopP_exit ?_
  refine goA 60 ?_
  refine fn_ret rfl rfl ?_
  exact ⟨[.gone], ⟨trivial, trivial⟩, .refl _⟩
 | cons x r =>
  have L1 := len_split g1
  try simp only [List.length] at L1
  have hc : iLt i (lenA ns) = true := lt_t e_iLt e_lenA (by omega)
  have hno : p.nodes = d.map Prod.fst ++ x.1 :: r.map Prod.fst := by rw [← hmap, g1, List.map_append, List.map_cons]
  have hat := el_at e_atA hes hno (show i = (d.map Prod.fst).length by rw [List.length_map]; exact gi)
  have hxs := hnode x.1 (by rw [hno]; simp)
  have hxo := hok x (by rw [g1]; simp)
  have hxw : x.1.wf := hw.node hxo.2
  obtain ⟨a1, a2⟩ := hatE d x r g1
  rw [← gi] at a1 a2
  have q3 := hq3 i
  rw [a1, a2] at q3
  have hqc := Pat.closed x.1
  have hcc := Ex.closed x.1.cond
  have hi2 : iAdd .i64 i 1 = ((d ++ [x]).length : Int) := by rw [List.length_append]; exact inc_w e_iAdd gi (by omega)
  rw [firstE] at gR
  rw [idxE] at gJ
  have hce : condE x = if testsF x.1.op = true then x.1.cond.fol (x.1.own x.2) else 0 := rfl
  rw [hce] at gR gJ
  by_cases ht : testsF x.1.op = true
  rotate_left
  · rw [if_neg ht, if_neg ht, hz] at q3
    rw [if_neg ht, if_neg (fun k => k rfl)] at gR
    have gJ2 : J = if R ≠ 0 then iAdd .i64 i 1 + idxE condE r else 0 := by
     rw [gJ, if_neg ht]
     by_cases h : R = 0
     · rw [if_neg (fun k => k h), if_neg (fun k => k h)]
     · rw [if_pos h, if_pos h, if_neg (fun k => k rfl), if_pos (gR ▸ h), hi2, List.length_append]; simp only [List.length_cons, List.length_nil]; omega
    refine goB hX 0 (by conv => lhs; cbv; try simp only [hc, hat, k0, k1]; cbv; try simp only [hc, hat, k0, k1]; cbv; try simp only [hc, hat, k0, k1]; cbv; try simp only [hc, hat, k0, k1]; cbv) ?_
    refine goA 60 ?_
    refine Go.Am.pcA q3 ?_
    refine goB hX 0 (by conv => lhs; cbv; try simp only [hc, hat, k0, k1]; cbv; try simp only [hc, hat, k0, k1]; cbv; try simp only [hc, hat, k0, k1]; cbv; try simp only [hc, hat, k0, k1]; cbv) ?_
    refine goA 60 ?_
    refine loopP_next (d ++ [x], r, iAdd .i64 i 1) ⟨by simp [g1], hi2, gR, gJ2⟩ (by simp) (ent_sub [.to 0, .gone] [some 0] ⟨⟨by simp, rfl⟩, trivial, trivial⟩ ⟨osrc_cells (b := 0) rfl rfl rfl ⟨.refl _, .cl hpAI, .refl _, .refl _, .refl _, .refl _, .refl _, .cl hpCI, .refl _, .refl _, .refl _, .refl _, .refl _, .refl _, trivial⟩, trivial⟩ ⟨.refl _, .cl hnc, .refl _, trivial⟩)
  · rw [if_pos ht, if_pos ht] at q3
    have hoo := own_ok hxw ht hxo.1
    have q4 := P_ref15_Follows (x.1.own x.2) (by have := hoo.2.2.1; omega) (by have := hoo.2.2.2; omega) x.1.cond hxs.cond'
    rw [if_pos ht] at gR gJ
    have r1 := closedI_int (x.1.own x.2).us
    have r2 := closedI_int (x.1.own x.2).si
    simp only [Plc.enc] at q3 q4
    generalize mapE int (x.1.own x.2).us = A1 at *
    generalize mapE int (x.1.own x.2).si = A2 at *
    generalize (x.1.own x.2).fb = f2 at *
    have hcs : (AV.agg [.isl 1 A1, .isl 1 A2, int f2]).closed = true := by simp [AV.closed, AV.closedL] at r1 r2 ⊢; exact ⟨r1, r2⟩
    generalize x.1.cond.fol (x.1.own x.2) = fq at *
    obtain ⟨xq, exq⟩ : ∃ xq, xq = x.1 := ⟨_, rfl⟩
    rw [← exq] at hat hqc hcc q4
    obtain ⟨xqO, xqA, xqT, xqV, xqS, xqN, xqCo, xqCa, xqCv, xqCf, xqCk, xqXk, xqXn, xqXt, hxq, hxqc, hxqO, hxqA, hxqT, hxqV, hxqS, hxqN⟩ := Pat.form2 xq
    rw [hxq] at hat hqc
    rw [hxqc] at q4 hcc
    by_cases h2 : fq = 0
    · subst h2
      rw [if_neg (fun k => k rfl)] at gR
      have e2 : (if (0 : Int) ≠ 0 then (0 : Int) else if firstE condE r ≠ 0 then idxE condE r + 1 else 0) = if firstE condE r ≠ 0 then idxE condE r + 1 else 0 := if_neg (fun k => k rfl)
      rw [e2] at gJ
      have gJ2 : J = if R ≠ 0 then iAdd .i64 i 1 + idxE condE r else 0 := by
       rw [gJ]
       by_cases h : R = 0
       · rw [if_neg (fun k => k h), if_neg (fun k => k h)]
       · rw [if_pos h, if_pos h, if_pos (gR ▸ h), hi2, List.length_append]; simp only [List.length_cons, List.length_nil]; omega
      refine goB hX 0 (by conv => lhs; cbv; try simp only [hc, hat, k0, k1]; cbv; try simp only [hc, hat, k0, k1]; cbv; try simp only [hc, hat, k0, k1]; cbv; try simp only [hc, hat, k0, k1]; cbv) ?_
      refine goA 60 ?_
      refine Go.Am.pcA q3 ?_
      refine goB hX 0 (by conv => lhs; cbv; try simp only [hc, hat, k0, k1]; cbv; try simp only [hc, hat, k0, k1]; cbv; try simp only [hc, hat, k0, k1]; cbv; try simp only [hc, hat, k0, k1]; cbv) ?_
      refine goB hX 1 (by conv => lhs; cbv; try simp only [hc, hat, k0, k1]; cbv; try simp only [hc, hat, k0, k1]; cbv; try simp only [hc, hat, k0, k1]; cbv; try simp only [hc, hat, k0, k1]; cbv) ?_
      refine tr_drawB rfl (by conv => lhs; cbv) rfl ?_
      refine tgB hX (by conv => lhs; cbv; try simp only [hc, hat, k0, k1]; cbv; try simp only [hc, hat, k0, k1]; cbv; try simp only [hc, hat, k0, k1]; cbv; try simp only [hc, hat, k0, k1]; cbv) ?_
      refine Go.Am.pcT q4 ?_
      refine tgA ?_
      refine tr_nil ⟨rfl, by simp [LooksL, lookAll], ?_⟩
      refine goB hX 0 (by conv => lhs; cbv; try simp only [hc, hat, k0, k1]; cbv; try simp only [hc, hat, k0, k1]; cbv; try simp only [hc, hat, k0, k1]; cbv; try simp only [hc, hat, k0, k1]; cbv) ?_
      refine goA 60 ?_
      refine loopP_next (d ++ [x], r, iAdd .i64 i 1) ⟨by simp [g1], hi2, gR, gJ2⟩ (by simp) (ent_sub [.to 0, .gone] [some 0] ⟨⟨by simp, rfl⟩, trivial, trivial⟩ ⟨osrc_cells (b := 0) rfl rfl rfl ⟨.refl _, .cl hpAI, .refl _, .refl _, .refl _, .refl _, .refl _, .cl hpCI, .refl _, .refl _, .refl _, .refl _, .refl _, .refl _, trivial⟩, trivial⟩ ⟨.refl _, .cl hnc, .refl _, trivial⟩)
    · have w1 : iNe fq 0 = true := by simp only [ee]; simpa using h2
      rw [if_pos h2] at gR
      subst gR
      rw [if_pos h2, if_pos h2, Int.add_zero] at gJ
      subst gJ
      refine goB hX 0 (by conv => lhs; cbv; try simp only [hc, hat, k0, k1, w1]; cbv; try simp only [hc, hat, k0, k1, w1]; cbv; try simp only [hc, hat, k0, k1, w1]; cbv; try simp only [hc, hat, k0, k1, w1]; cbv) ?_
      refine goA 60 ?_
      refine Go.Am.pcA q3 ?_
      refine goB hX 0 (by conv => lhs; cbv; try simp only [hc, hat, k0, k1, w1]; cbv; try simp only [hc, hat, k0, k1, w1]; cbv; try simp only [hc, hat, k0, k1, w1]; cbv; try simp only [hc, hat, k0, k1, w1]; cbv) ?_
      refine goB hX 1 (by conv => lhs; cbv; try simp only [hc, hat, k0, k1, w1]; cbv; try simp only [hc, hat, k0, k1, w1]; cbv; try simp only [hc, hat, k0, k1, w1]; cbv; try simp only [hc, hat, k0, k1, w1]; cbv) ?_
      refine tr_drawB rfl (by conv => lhs; cbv) rfl ?_
      refine tgB hX (by conv => lhs; cbv; try simp only [hc, hat, k0, k1, w1]; cbv; try simp only [hc, hat, k0, k1, w1]; cbv; try simp only [hc, hat, k0, k1, w1]; cbv; try simp only [hc, hat, k0, k1, w1]; cbv) ?_
      refine Go.Am.pcT q4 ?_
      refine tgA ?_
      refine tr_nil ⟨rfl, by simp [LooksL, lookAll], ?_⟩
      refine goB hX 0 (by conv => lhs; cbv; try simp only [hc, hat, k0, k1, w1]; cbv; try simp only [hc, hat, k0, k1, w1]; cbv; try simp only [hc, hat, k0, k1, w1]; cbv; try simp only [hc, hat, k0, k1, w1]; cbv) ?_
      refine goA 60 ?_
      refine loopP_ret ?_
      refine goA 60 ?_
      refine fn_ret rfl rfl ?_
      exact ⟨[.gone, .gone], ⟨trivial, trivial, trivial⟩, .refl _⟩
theorem P_ref15_Returns (p : Pat) (l : List Ex) (hs : p.Sm) (hl : ∀ e ∈ l, e.Sm) (hn : l.length < 1048577) : PCall EE 17 [p.enc, .isl 8 (mapE Ex.enc l)] (.tup [int (p.rtI l), int (p.rtE l)]) := by
 have q1 := P_ref09_Check p hs
 have hcl := Pat.closed p
 have hec := Ex.closedI l
 by_cases hk : p.chk = 0
 rotate_left
 · have hE : p.rtE l = p.chk := by unfold Pat.rtE; rw [if_pos hk]
   have hI : p.rtI l = 0 := by unfold Pat.rtI; rw [if_pos hk]
   rw [hE, hI]
   generalize mapE Ex.enc l = es at *
   generalize p.chk = er at *
   obtain ⟨pO, pA, pT, pV, pS, pN, pCo, pCa, pCv, pCf, pCk, pXk, pXn, pXt, hx, hxc, hpO, hpA, hpT, hpV, hpS, hpN⟩ := Pat.form2 p
   rw [hx] at q1 hcl ⊢
   clear hx hs hE hI
   refine wordsN ?_; unhygienic intros
   have kc : iNe er 0 = true := by simp only [ee]; simpa using hk
   refine fn_body (fn := Tryz.f17) (n := 49) (ac := Tryzc17) (rvs := [.t 4, .t 5]) rfl (by decide) Tryzp17 rfl rfl rfl ?_
   refine goA 60 ?_
   refine Go.Am.pcA q1 ?_
   refine goB hX 0 (by conv => lhs; cbv; try simp only [kc]; cbv; try simp only [kc]; cbv; try simp only [kc]; cbv; try simp only [kc]; cbv) ?_
   refine goA 60 ?_
   refine fn_ret rfl rfl ?_
   exact ⟨[.gone], ⟨trivial, trivial⟩, .refl _⟩
 have hw := chk_wf hk
 have q2 := P_ref09_Bound p hs
 have q3 := P_ref15_Ones p hs hw
 have hq4 : ∀ e ∈ l, PCall EE 38 [e.enc] (int e.chk) := fun e he => P_ref08_Check e (hl e he)
 have hq5 : ∀ e ∈ l, PCall EE 31 [e.enc, p.retP.enc] (int (e.fol p.retP)) := fun e he => P_ref15_Follows p.retP (by have := bound_len hw; show p.bound.length < _; omega) (by have := ones_len hw; show p.ones.length < _; omega) e (hl e he)
 rw [hk] at q1
 have r1 := closedI_int p.bound
 have r2 := closedI_int p.ones
 have hrc : p.retP.enc = .agg [.isl 1 (mapE int p.bound), .isl 1 (mapE int p.ones), int (-1)] := rfl
 rw [hrc] at hq5
 have hE : p.rtE l = if 256 < l.length then 5 else firstE (retE p.retP) l := by unfold Pat.rtE; rw [if_neg (fun k => k hk)]
 have hI : p.rtI l = if 256 < l.length then 0 else idxE (retE p.retP) l := by unfold Pat.rtI; rw [if_neg (fun k => k hk)]
 rw [hE, hI]
 clear hE hI hrc
 generalize p.retP = s at *
 generalize mapE int p.bound = A1 at *
 generalize mapE int p.ones = A2 at *
 have hcs : (AV.agg [.isl 1 A1, .isl 1 A2, int (-1)]).closed = true := by simp [AV.closed, AV.closedL] at r1 r2 ⊢; exact ⟨r1, r2⟩
 obtain ⟨pO, pA, pT, pV, pS, pN, pCo, pCa, pCv, pCf, pCk, pXk, pXn, pXt, hx, hxc, hpO, hpA, hpT, hpV, hpS, hpN⟩ := Pat.form2 p
 rw [hx] at q1 q2 q3 hcl ⊢
 clear hx hs hw hk
 refine wordsN ?_; unhygienic intros
 generalize hes : mapE Ex.enc l = es at *
 have hel : es.length = l.length := by rw [← hes, mapE_len]
 have kc : iNe 0 0 = false := by simp only [ee]; rfl
 by_cases h256 : 256 < l.length
 · rw [if_pos h256, if_pos h256]
   have kl : iLt 256 (lenA es) = true := by simp only [ee]; simp; omega
   refine fn_body (fn := Tryz.f17) (n := 49) (ac := Tryzc17) (rvs := [.t 4, .t 5]) rfl (by decide) Tryzp17 rfl rfl rfl ?_
   refine goA 60 ?_
   refine Go.Am.pcA q1 ?_
   refine goB hX 0 (by conv => lhs; cbv; try simp only [kc, kl]; cbv; try simp only [kc, kl]; cbv; try simp only [kc, kl]; cbv; try simp only [kc, kl]; cbv) ?_
   refine goB hX 1 (by conv => lhs; cbv; try simp only [kc, kl]; cbv; try simp only [kc, kl]; cbv; try simp only [kc, kl]; cbv; try simp only [kc, kl]; cbv) ?_
   refine goA 60 ?_
   refine fn_ret rfl rfl ?_
   exact ⟨[.gone], ⟨trivial, trivial⟩, .refl _⟩
 rw [if_neg h256, if_neg h256]
 have kl : iLt 256 (lenA es) = false := by simp only [ee]; simp; omega
 obtain ⟨R, hR⟩ : ∃ R, R = firstE (retE s) l := ⟨_, rfl⟩
 obtain ⟨J, hJ⟩ : ∃ J, J = idxE (retE s) l := ⟨_, rfl⟩
 rw [← hR, ← hJ]
 have hJ2 : J = if R ≠ 0 then 0 + idxE (retE s) l else 0 := by
  by_cases h : R = 0
  · rw [if_neg (fun k => k h), hJ, idx_zero (hR ▸ h)]
  · rw [if_pos h, hJ]; omega
 refine fn_body (fn := Tryz.f17) (n := 49) (ac := Tryzc17) (rvs := [.t 4, .t 5]) rfl (by decide) Tryzp17 rfl rfl rfl ?_
 refine goA 60 ?_
 refine Go.Am.pcA q1 ?_
 refine goB hX 0 (by conv => lhs; cbv; try simp only [kc, kl]; cbv; try simp only [kc, kl]; cbv; try simp only [kc, kl]; cbv; try simp only [kc, kl]; cbv) ?_
 refine goB hX 1 (by conv => lhs; cbv; try simp only [kc, kl]; cbv; try simp only [kc, kl]; cbv; try simp only [kc, kl]; cbv; try simp only [kc, kl]; cbv) ?_
 refine goA 60 ?_
 refine tr_drawB rfl (by conv => lhs; cbv) rfl ?_
 refine tgA ?_
 refine Go.Am.pcT q2 ?_
 refine tgA ?_
 refine Go.Am.pcT q3 ?_
 refine tgA ?_
 refine tr_nil ⟨rfl, by simp [LooksL, lookAll], ?_⟩
 refine goA 60 ?_
 refine on_loopP (ι := List Ex × List Ex × Int) (fun p => ([(8, int p.2.2), (1, .isl 8 es), (7, .ptr 0 0)], [.cells [.isl 1 A1, .isl 1 A2, int (-1)]])) (fun p => l = p.1 ++ p.2.1 ∧ p.2.2 = p.1.length ∧ R = firstE (retE s) p.2.1 ∧ J = (if R ≠ 0 then p.2.2 + idxE (retE s) p.2.1 else 0)) (fun p => p.2.1.length) ([], l, 0) ⟨rfl, rfl, hR, hJ2⟩ ?_ ?_
 · exact (ent_sub [.gone, .to 0] [some 1] ⟨trivial, ⟨by simp, rfl⟩, trivial⟩ ⟨osrc_cells (b := 1) rfl rfl rfl ⟨.cl r1, .cl r2, .refl _, trivial⟩, trivial⟩ ⟨.refl _, .cl hec, .refl _, trivial⟩)
 rintro ⟨d, r, i⟩ ⟨g1, gi, gR, gJ⟩
 dsimp only at g1 gi gR gJ ⊢
 cases r with
 | nil =>
  have L1 := len_split g1
  try simp only [List.length] at L1
  have hc : iLt i (lenA es) = false := lt_f e_iLt e_lenA (by omega)
  have gR : R = 0 := gR
  subst gR
  have gJ : J = 0 := gJ
  subst gJ
  refine goB hX 0 (by conv => lhs; cbv; try simp only [hc]; cbv; try simp only [hc]; cbv; try simp only [hc]; cbv; try simp only [hc]; cbv) ?_
  refine goA 60 ?_
  refine loopP_exit ?_
  refine goA 60 ?_
  refine fn_ret rfl rfl ?_
  exact ⟨[.gone], ⟨trivial, trivial⟩, .refl _⟩
 | cons q r =>
  have L1 := len_split g1
  try simp only [List.length] at L1
  have hc : iLt i (lenA es) = true := lt_t e_iLt e_lenA (by omega)
  have hat := el_at e_atA hes g1 gi
  have hqm : q ∈ l := by rw [g1]; simp
  have q4 := hq4 q hqm
  have q5 := hq5 q hqm
  have hqc := Ex.closed q
  have hi2 : iAdd .i64 i 1 = ((d ++ [q]).length : Int) := by rw [List.length_append]; exact inc_w e_iAdd gi (by omega)
  obtain ⟨ck, eck⟩ : ∃ z, z = q.chk := ⟨_, rfl⟩
  obtain ⟨fq, efq⟩ : ∃ z, z = q.fol s := ⟨_, rfl⟩
  have hre : retE s q = if ck ≠ 0 then ck else fq := by rw [eck, efq]; rfl
  rw [← eck] at q4
  rw [← efq] at q5
  rw [firstE, hre] at gR
  rw [idxE, hre] at gJ
  clear eck efq hre
  obtain ⟨qO, qA, qV, qF, qK, qXk, qXn, qXt, hxq⟩ := Ex.form q
  rw [hxq] at hat hqc q4 q5
  by_cases h1 : ck = 0
  · subst h1
    have e1 : (if (0 : Int) ≠ 0 then (0 : Int) else fq) = fq := if_neg (fun k => k rfl)
    rw [e1] at gR gJ
    have w0 : iEq 0 0 = true := by simp only [ee]; rfl
    by_cases h2 : fq = 0
    · subst h2
      rw [if_neg (fun k => k rfl)] at gR
      have e2 : (if (0 : Int) ≠ 0 then (0 : Int) else if firstE (retE s) r ≠ 0 then idxE (retE s) r + 1 else 0) = if firstE (retE s) r ≠ 0 then idxE (retE s) r + 1 else 0 := if_neg (fun k => k rfl)
      rw [e2] at gJ
      have gJ2 : J = if R ≠ 0 then iAdd .i64 i 1 + idxE (retE s) r else 0 := by
       rw [gJ]
       by_cases h : R = 0
       · rw [if_neg (fun k => k h), if_neg (fun k => k h)]
       · rw [if_pos h, if_pos h, if_pos (gR ▸ h), hi2, List.length_append]; simp only [List.length_cons, List.length_nil]; omega
      refine goB hX 0 (by conv => lhs; cbv; try simp only [hc, hat, w0, kc]; cbv; try simp only [hc, hat, w0, kc]; cbv; try simp only [hc, hat, w0, kc]; cbv; try simp only [hc, hat, w0, kc]; cbv) ?_
      refine goB hX 1 (by conv => lhs; cbv; try simp only [hc, hat, w0, kc]; cbv; try simp only [hc, hat, w0, kc]; cbv; try simp only [hc, hat, w0, kc]; cbv; try simp only [hc, hat, w0, kc]; cbv) ?_
      refine Go.Am.pcA q4 ?_
      refine goB hX 0 (by conv => lhs; cbv; try simp only [hc, hat, w0, kc]; cbv; try simp only [hc, hat, w0, kc]; cbv; try simp only [hc, hat, w0, kc]; cbv; try simp only [hc, hat, w0, kc]; cbv) ?_
      refine goB hX 1 (by conv => lhs; cbv; try simp only [hc, hat, w0, kc]; cbv; try simp only [hc, hat, w0, kc]; cbv; try simp only [hc, hat, w0, kc]; cbv; try simp only [hc, hat, w0, kc]; cbv) ?_
      refine tr_drawB rfl (by conv => lhs; cbv) rfl ?_
      refine tgB hX (by conv => lhs; cbv; try simp only [hc, hat, w0, kc]; cbv; try simp only [hc, hat, w0, kc]; cbv; try simp only [hc, hat, w0, kc]; cbv; try simp only [hc, hat, w0, kc]; cbv) ?_
      refine Go.Am.pcT q5 ?_
      refine tgA ?_
      refine tr_nil ⟨rfl, by simp [LooksL, lookAll], ?_⟩
      refine goB hX 0 (by conv => lhs; cbv; try simp only [hc, hat, w0, kc]; cbv; try simp only [hc, hat, w0, kc]; cbv; try simp only [hc, hat, w0, kc]; cbv; try simp only [hc, hat, w0, kc]; cbv) ?_
      refine goA 60 ?_
      refine loopP_next (d ++ [q], r, iAdd .i64 i 1) ⟨by simp [g1], hi2, gR, gJ2⟩ (by simp) (ent_sub [.to 0] [some 0] ⟨⟨by simp, rfl⟩, trivial⟩ ⟨osrc_cells (b := 0) rfl rfl rfl ⟨.cl r1, .cl r2, .refl _, trivial⟩, trivial⟩ ⟨.refl _, .cl hec, .refl _, trivial⟩)
    · rw [if_pos h2] at gR
      subst gR
      rw [if_pos h2, if_pos h2, Int.add_zero] at gJ
      subst gJ
      have w1 : iNe R 0 = true := by simp only [ee]; simpa using h2
      refine goB hX 0 (by conv => lhs; cbv; try simp only [hc, hat, w0, w1]; cbv; try simp only [hc, hat, w0, w1]; cbv; try simp only [hc, hat, w0, w1]; cbv; try simp only [hc, hat, w0, w1]; cbv) ?_
      refine goB hX 1 (by conv => lhs; cbv; try simp only [hc, hat, w0, w1]; cbv; try simp only [hc, hat, w0, w1]; cbv; try simp only [hc, hat, w0, w1]; cbv; try simp only [hc, hat, w0, w1]; cbv) ?_
      refine Go.Am.pcA q4 ?_
      refine goB hX 0 (by conv => lhs; cbv; try simp only [hc, hat, w0, w1]; cbv; try simp only [hc, hat, w0, w1]; cbv; try simp only [hc, hat, w0, w1]; cbv; try simp only [hc, hat, w0, w1]; cbv) ?_
      refine on_cond rfl (fun c1 => ?_) (fun c1 => ?_)
      ·
       simp [ee] at c1
      ·
       simp [ee] at c1
       refine goB hX 0 (by conv => lhs; cbv; try simp only [hc, hat, w0, w1]; cbv; try simp only [hc, hat, w0, w1]; cbv; try simp only [hc, hat, w0, w1]; cbv; try simp only [hc, hat, w0, w1]; cbv) ?_
       refine tr_drawB rfl (by conv => lhs; cbv) rfl ?_
       refine tgB hX (by conv => lhs; cbv; try simp only [hc, hat, w0, w1]; cbv; try simp only [hc, hat, w0, w1]; cbv; try simp only [hc, hat, w0, w1]; cbv; try simp only [hc, hat, w0, w1]; cbv) ?_
       refine Go.Am.pcT q5 ?_
       refine tgA ?_
       refine tr_nil ⟨rfl, by simp [LooksL, lookAll], ?_⟩
       refine goB hX 0 (by conv => lhs; cbv; try simp only [hc, hat, w0, w1]; cbv; try simp only [hc, hat, w0, w1]; cbv; try simp only [hc, hat, w0, w1]; cbv; try simp only [hc, hat, w0, w1]; cbv) ?_
       refine goA 60 ?_
       refine loopP_ret ?_
       refine goA 60 ?_
       refine fn_ret rfl rfl ?_
       exact ⟨[.gone], ⟨trivial, trivial⟩, .refl _⟩
  · rw [if_pos h1, if_pos h1] at gR
    subst gR
    rw [if_pos h1, if_pos h1, if_pos h1, Int.add_zero] at gJ
    subst gJ
    have w0 : iEq R 0 = false := by simp only [ee]; simpa using h1
    have w1 : iNe R 0 = true := by simp only [ee]; simpa using h1
    refine goB hX 0 (by conv => lhs; cbv; try simp only [hc, hat, w0, w1]; cbv; try simp only [hc, hat, w0, w1]; cbv; try simp only [hc, hat, w0, w1]; cbv; try simp only [hc, hat, w0, w1]; cbv) ?_
    refine goB hX 1 (by conv => lhs; cbv; try simp only [hc, hat, w0, w1]; cbv; try simp only [hc, hat, w0, w1]; cbv; try simp only [hc, hat, w0, w1]; cbv; try simp only [hc, hat, w0, w1]; cbv) ?_
    refine Go.Am.pcA q4 ?_
    refine goB hX 0 (by conv => lhs; cbv; try simp only [hc, hat, w0, w1]; cbv; try simp only [hc, hat, w0, w1]; cbv; try simp only [hc, hat, w0, w1]; cbv; try simp only [hc, hat, w0, w1]; cbv) ?_
    refine goA 60 ?_
    refine loopP_ret ?_
    refine goA 60 ?_
    refine fn_ret rfl rfl ?_
    exact ⟨[.gone], ⟨trivial, trivial⟩, .refl _⟩
def fewA : Nat → List Ex → Bool
 | 0, _ => false
 | _ + 1, [] => true
 | k + 1, e :: r => if e.few = true then fewA k r else false
theorem P_ref15_FewAll (l : List Ex) (hl : ∀ e ∈ l, e.Sm) (hn : l.length < 1048577) : PCall EE 15 [.isl 8 (mapE Ex.enc l)] (bool (fewA 20 l)) := by
 have hq1 : ∀ e ∈ l, PCall EE 32 [e.enc] (bool e.few) := fun e he => P_ref08_Few e (hl e he)
 have hec := Ex.closedI l
 obtain ⟨R, hR⟩ : ∃ R, R = fewA 20 l := ⟨_, rfl⟩
 rw [← hR]
 refine wordsN ?_; unhygienic intros
 generalize hes : mapE Ex.enc l = es at *
 have hel : es.length = l.length := by rw [← hes, mapE_len]
 have n0 : bNot false = true := by simp only [ee]; rfl
 have n1 : bNot true = false := by simp only [ee]; rfl
 refine fn_body (fn := Tryz.f15) (n := 23) (ac := Tryzc15) (rvs := [.t 2]) rfl (by decide) Tryzp15 rfl rfl rfl ?_
 refine goA 60 ?_
 refine on_loopP (ι := List Ex × List Ex × Int × Nat) (fun p => ([(3, int p.2.2.1), (0, .isl 8 es)], [])) (fun p => l = p.1 ++ p.2.1 ∧ p.2.2.1 = p.1.length ∧ (p.2.2.2 : Int) + p.2.2.1 = 20 ∧ R = fewA p.2.2.2 p.2.1) (fun p => p.2.1.length) ([], l, 0, 20) ⟨rfl, rfl, rfl, hR⟩ ?_ ?_
 · exact (ent_sub [] [] trivial trivial ⟨.refl _, .cl hec, trivial⟩)
 rintro ⟨d, r, i, m⟩ ⟨g1, gi, gm, gR⟩
 dsimp only at g1 gi gm gR ⊢
 cases m with
 | zero =>
  have L0 := len_split g1
  have gR : R = false := by rw [gR, fewA]
  subst gR
  have k2 : iLt i 20 = false := by simp only [ee]; simp; omega
  have k3 : iLt (lenA es) 20 = false := by simp only [ee]; simp; omega
  cases r with
  | nil =>
   have L1 := len_split g1
   try simp only [List.length] at L1
   have hc : iLt i (lenA es) = false := lt_f e_iLt e_lenA (by omega)
   refine goB hX 0 (by conv => lhs; cbv; try simp only [hc, k2, k3]; cbv; try simp only [hc, k2, k3]; cbv; try simp only [hc, k2, k3]; cbv; try simp only [hc, k2, k3]; cbv) ?_
   refine on_cond rfl (fun c1 => ?_) (fun c1 => ?_)
   ·
    simp [ee] at c1
   ·
    simp [ee] at c1
    refine goA 60 ?_
    refine loopP_exit ?_
    refine goA 60 ?_
    refine fn_ret rfl rfl (.val ?_)
    exact congrArg Value.bool k3
  | cons q r =>
   have L1 := len_split g1
   try simp only [List.length] at L1
   have hc : iLt i (lenA es) = true := lt_t e_iLt e_lenA (by omega)
   refine goB hX 0 (by conv => lhs; cbv; try simp only [hc, k2, k3]; cbv; try simp only [hc, k2, k3]; cbv; try simp only [hc, k2, k3]; cbv; try simp only [hc, k2, k3]; cbv) ?_
   refine on_cond rfl (fun c1 => ?_) (fun c1 => ?_)
   ·
    simp [ee] at c1
   ·
    simp [ee] at c1
    refine goA 60 ?_
    refine loopP_exit ?_
    refine goA 60 ?_
    refine fn_ret rfl rfl (.val ?_)
    exact congrArg Value.bool k3
 | succ m =>
  have k2 : iLt i 20 = true := by simp only [ee]; simp; omega
  cases r with
  | nil =>
   have L1 := len_split g1
   try simp only [List.length] at L1
   have hc : iLt i (lenA es) = false := lt_f e_iLt e_lenA (by omega)
   have gR : R = true := by rw [gR, fewA]
   subst gR
   have k3 : iLt (lenA es) 20 = true := by simp only [ee]; simp; omega
   refine goB hX 0 (by conv => lhs; cbv; try simp only [hc, k2, k3]; cbv; try simp only [hc, k2, k3]; cbv; try simp only [hc, k2, k3]; cbv; try simp only [hc, k2, k3]; cbv) ?_
   refine on_cond rfl (fun c1 => ?_) (fun c1 => ?_)
   ·
    simp [ee] at c1
   ·
    simp [ee] at c1
    refine goA 60 ?_
    refine loopP_exit ?_
    refine goA 60 ?_
    refine fn_ret rfl rfl (.val ?_)
    exact congrArg Value.bool k3
  | cons q r =>
   have L1 := len_split g1
   try simp only [List.length] at L1
   have hc : iLt i (lenA es) = true := lt_t e_iLt e_lenA (by omega)
   have hat := el_at e_atA hes g1 gi
   have q1 := hq1 q (by rw [g1]; simp)
   have hqc := Ex.closed q
   have hi2 : iAdd .i64 i 1 = ((d ++ [q]).length : Int) := by rw [List.length_append]; exact inc_w e_iAdd gi (by omega)
   rw [fewA] at gR
   generalize q.few = b at *
   obtain ⟨qO, qA, qV, qF, qK, qXk, qXn, qXt, hxq⟩ := Ex.form q
   rw [hxq] at hat hqc q1
   cases b with
   | true =>
    rw [if_pos rfl] at gR
    refine goB hX 0 (by conv => lhs; cbv; try simp only [hc, hat, k2, n1]; cbv; try simp only [hc, hat, k2, n1]; cbv; try simp only [hc, hat, k2, n1]; cbv; try simp only [hc, hat, k2, n1]; cbv) ?_
    refine on_cond rfl (fun c1 => ?_) (fun c1 => ?_)
    ·
     simp [ee] at c1
     refine goB hX 0 (by conv => lhs; cbv; try simp only [hc, hat, k2, n1]; cbv; try simp only [hc, hat, k2, n1]; cbv; try simp only [hc, hat, k2, n1]; cbv; try simp only [hc, hat, k2, n1]; cbv) ?_
     refine Go.Am.pcA q1 ?_
     refine goB hX 0 (by conv => lhs; cbv; try simp only [hc, hat, k2, n1]; cbv; try simp only [hc, hat, k2, n1]; cbv; try simp only [hc, hat, k2, n1]; cbv; try simp only [hc, hat, k2, n1]; cbv) ?_
     refine goA 60 ?_
     refine loopP_next (d ++ [q], r, iAdd .i64 i 1, m) ⟨by simp [g1], hi2, (by show (m : Int) + iAdd .i64 i 1 = 20; rw [hi2, List.length_append]; simp only [List.length_cons, List.length_nil]; omega), gR⟩ (by simp) (ent_sub [] [] trivial trivial ⟨.refl _, .cl hec, trivial⟩)
    ·
     simp [ee] at c1
   | false =>
    rw [if_neg (show ¬ (false = true) by decide)] at gR
    subst gR
    refine goB hX 0 (by conv => lhs; cbv; try simp only [hc, hat, k2, n0]; cbv; try simp only [hc, hat, k2, n0]; cbv; try simp only [hc, hat, k2, n0]; cbv; try simp only [hc, hat, k2, n0]; cbv) ?_
    refine on_cond rfl (fun c1 => ?_) (fun c1 => ?_)
    ·
     simp [ee] at c1
     refine goB hX 0 (by conv => lhs; cbv; try simp only [hc, hat, k2, n0]; cbv; try simp only [hc, hat, k2, n0]; cbv; try simp only [hc, hat, k2, n0]; cbv; try simp only [hc, hat, k2, n0]; cbv) ?_
     refine Go.Am.pcA q1 ?_
     refine goB hX 0 (by conv => lhs; cbv; try simp only [hc, hat, k2, n0]; cbv; try simp only [hc, hat, k2, n0]; cbv; try simp only [hc, hat, k2, n0]; cbv; try simp only [hc, hat, k2, n0]; cbv) ?_
     refine goA 60 ?_
     refine loopP_ret ?_
     refine goA 60 ?_
     refine fn_ret rfl rfl (.val ?_)
     rfl
    ·
     simp [ee] at c1
theorem P_lawReturns (p : Pat) (l : List Ex) (hs : p.Sm) (hl : ∀ e ∈ l, e.Sm) (hn : l.length < 1048577) : PCall EE 5 [p.enc, .isl 8 (mapE Ex.enc l)] (bool true) := by
 have q1 := P_ref15_Few p hs
 have q0 := P_ref15_FewAll l hl hn
 have q2 := P_awake
 have q3 := P_Returns p l hs hl hn
 have q4 := P_ref15_Returns p l hs hl hn
 have kc1 := Pat.closed p
 have kc2 := Ex.closedI l
 generalize p.rtI l = ix at *
 generalize p.rtE l = er at *
 generalize p.few = fw at *
 generalize fewA 20 l = fl at *
 generalize mapE Ex.enc l = es at *
 obtain ⟨pO, pA, pT, pV, pS, pN, pCo, pCa, pCv, pCf, pCk, pXk, pXn, pXt, hx⟩ := Pat.form p
 rw [hx] at q1 q3 q4 kc1 ⊢
 clear hx hs
 refine wordsN ?_; unhygienic intros
 have t1 : ∀ x : Int, iEq x x = true := fun x => by simp only [ee]; simp
 have n0 : bNot false = true := by simp only [ee]; rfl
 have n1 : bNot true = false := by simp only [ee]; rfl
 refine fn_body (fn := Tryz.f5) (n := 41) (ac := Tryzc5) (rvs := [.t 4]) rfl (by decide) Tryzp5 rfl rfl rfl ?_
 cases fw with
 | false =>
  refine goA 60 ?_
  refine Go.Am.pcA q1 ?_
  refine goB hX 0 (by conv => lhs; cbv; try simp only [n0]; cbv; try simp only [n0]; cbv; try simp only [n0]; cbv; try simp only [n0]; cbv) ?_
  refine goA 60 ?_
  refine on_gskip rfl rfl ?_
  refine goA 60 ?_
  refine Go.Am.pcA q2 ?_
  refine goA 60 ?_
  refine fn_ret rfl rfl (.val ?_)
  rfl
 | true =>
  cases fl with
  | false =>
   refine goA 60 ?_
   refine Go.Am.pcA q1 ?_
   refine goB hX 0 (by conv => lhs; cbv; try simp only [n0, n1]; cbv; try simp only [n0, n1]; cbv; try simp only [n0, n1]; cbv; try simp only [n0, n1]; cbv) ?_
   refine goA 60 ?_
   refine Go.Am.pcG q0 ?_
   refine goB hX 0 (by conv => lhs; cbv; try simp only [n0, n1]; cbv; try simp only [n0, n1]; cbv; try simp only [n0, n1]; cbv; try simp only [n0, n1]; cbv) ?_
   refine on_cond rfl (fun c1 => ?_) (fun c1 => ?_)
   ·
    simp [ee] at c1
    refine goA 60 ?_
    refine Go.Am.pcA q2 ?_
    refine goA 60 ?_
    refine fn_ret rfl rfl (.val ?_)
    rfl
   ·
    simp [ee] at c1
  | true =>
   refine goA 60 ?_
   refine Go.Am.pcA q1 ?_
   refine goB hX 0 (by conv => lhs; cbv; try simp only [n1, t1]; cbv; try simp only [n1, t1]; cbv; try simp only [n1, t1]; cbv; try simp only [n1, t1]; cbv) ?_
   refine goA 60 ?_
   refine Go.Am.pcG q0 ?_
   refine goB hX 0 (by conv => lhs; cbv; try simp only [n1, t1]; cbv; try simp only [n1, t1]; cbv; try simp only [n1, t1]; cbv; try simp only [n1, t1]; cbv) ?_
   refine on_cond rfl (fun c1 => ?_) (fun c1 => ?_)
   ·
    simp [ee] at c1
   ·
    simp [ee] at c1
    refine goA 60 ?_
    refine Go.Am.pcA q3 ?_
    refine goA 60 ?_
    refine Go.Am.pcA q4 ?_
    refine goB hX 0 (by conv => lhs; cbv; try simp only [n1, t1]; cbv; try simp only [n1, t1]; cbv; try simp only [n1, t1]; cbv; try simp only [n1, t1]; cbv) ?_
    refine on_guard rfl rfl (fun c2 => ?_) (fun c2 => ?_)
    ·
     simp [ee] at c2
     refine Go.Am.pcG q2 ?_
     refine goA 60 ?_
     refine fn_ret rfl rfl (.val ?_)
     rfl
    ·
     simp [ee] at c2
end Go.Am
end
