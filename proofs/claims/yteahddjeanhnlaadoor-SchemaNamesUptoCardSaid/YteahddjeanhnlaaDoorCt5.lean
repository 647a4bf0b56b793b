/- Contracts of the program's functions, for every argument that meets the conditions that each theorem names. -/
import Derived.Test.YteahddjeanhnlaaDoorAm6
import Derived.Test.YteahddjeanhnlaaDoorCt4
import Derived.Test.YteahddjeanhnlaaDoorCt3
section
set_option maxHeartbeats 16000000
set_option maxRecDepth 100000
namespace Go.Am
open Go.Proofs
def OJ (l : List Int) (ov : AV) (oa : AObj) : Prop := (l = [] ∧ ov = .val (.slice none 0 0) ∧ oa = .dead) ∨ (l ≠ [] ∧ ov = .sl 2 1 0 l.length ∧ oa = .arr 1 (mapE int l))
theorem P_refCompatible (a b : Sch) (ha : a.Short) (hb : b.Short) : PCall EE 23 [a.enc, b.enc] (.tup [.isl 1 (mapE int ((cmpQ a b).getD [])), bool (cmpQ a b).isSome, int (cmpE a b)]) := by
 have pca := P_refCheck a ha
 have pcb := P_refCheck b hb
 have kfa := Fld.closedI a.fs
 have kfb := Fld.closedI b.fs
 have pp := fun nm => P_refPosition a nm ha.2.1
 have hbl := hb.2.1
 have hal := ha.2.1
 have hb8 : b.chk = 0 → b.fs.length ≤ 8 := fun h => ((Sch.chk_zero b).1 h).2.1
 rw [cmpQ, cmpE]
 simp only [Sch.enc_eq] at pca pcb pp ⊢
 generalize a.chk = ea at *
 generalize b.chk = eb at *
 generalize a.fs = la at *
 generalize b.fs = lb at *
 generalize ba a.nm = an at *
 generalize ba b.nm = bn at *
 clear ha hb
 refine wordsN ?_; unhygienic intros
 generalize hfa : mapE Fld.enc la = fa at *
 generalize hes : mapE Fld.enc lb = es at *
 have hfl : fa.length = la.length := by rw [← hfa, mapE_len]
 have hel : es.length = lb.length := by rw [← hes, mapE_len]
 have kcA : AV.closedL [str an, .isl 2 fa] = true := by simp [AV.closedL, closed_v, kfa]
 have kcB : AV.closedL [str bn, .isl 2 es] = true := by simp [AV.closedL, closed_v, kfb]
 by_cases n1 : ea ≠ 0
 · have k1 : iNe ea 0 = true := by simp only [ee]; simpa using n1
   rw [if_pos n1, if_pos n1]
   simp only [Option.getD_none, Option.isSome_none]
   rw [mapE_nil]
   clear pp pcb
   refine fn_body (fn := Tryd.f23) (n := 59) (ac := Trydc23) (rvs := [.t 4, .t 5, .t 6]) rfl (by decide) Trydp23 rfl rfl rfl ?_
   refine goA 60 ?_
   refine oPA pca ?_
   refine goB hX 0 (by conv => lhs; cbv; try simp only [k1]; cbv; try simp only [k1]; cbv; try simp only [k1]; cbv; try simp only [k1]; cbv) ?_
   refine goA 60 ?_
   refine fn_ret rfl rfl ?_
   exact ⟨[.gone, .gone], ⟨trivial, trivial, trivial⟩, .tup' ⟨.nilI _, .refl _, .refl _, trivial⟩⟩
 have k1 : iNe ea 0 = false := by simp only [ee]; simpa using n1
 rw [if_neg n1]
 by_cases n2 : eb ≠ 0
 · have k2 : iNe eb 0 = true := by simp only [ee]; simpa using n2
   rw [if_pos n2]
   simp only [Option.getD_none, Option.isSome_none]
   rw [mapE_nil]
   clear pp
   refine fn_body (fn := Tryd.f23) (n := 59) (ac := Trydc23) (rvs := [.t 4, .t 5, .t 6]) rfl (by decide) Trydp23 rfl rfl rfl ?_
   refine goA 60 ?_
   refine oPA pca ?_
   refine goB hX 0 (by conv => lhs; cbv; try simp only [k1, k2]; cbv; try simp only [k1, k2]; cbv; try simp only [k1, k2]; cbv; try simp only [k1, k2]; cbv) ?_
   refine goA 60 ?_
   refine oPA pcb ?_
   refine goB hX 0 (by conv => lhs; cbv; try simp only [k1, k2]; cbv; try simp only [k1, k2]; cbv; try simp only [k1, k2]; cbv; try simp only [k1, k2]; cbv) ?_
   refine goA 60 ?_
   refine fn_ret rfl rfl ?_
   exact ⟨[.gone, .gone], ⟨trivial, trivial, trivial⟩, .tup' ⟨.nilI _, .refl _, .refl _, trivial⟩⟩
 have k2 : iNe eb 0 = false := by simp only [ee]; simpa using n2
 rw [if_neg n2]
 have e2 : eb = 0 := by simpa using n2
 have hb8 := hb8 e2
 subst e2
 obtain ⟨R, hR⟩ : ∃ R, R = cmpL la lb := ⟨_, rfl⟩
 rw [← hR]
 refine fn_body (fn := Tryd.f23) (n := 59) (ac := Trydc23) (rvs := [.t 4, .t 5, .t 6]) rfl (by decide) Trydp23 rfl rfl rfl ?_
 refine goA 60 ?_
 refine oPA pca ?_
 refine goB hX 0 (by conv => lhs; cbv; try simp only [k1, k2]; cbv; try simp only [k1, k2]; cbv; try simp only [k1, k2]; cbv; try simp only [k1, k2]; cbv) ?_
 refine goA 60 ?_
 refine oPA pcb ?_
 refine goB hX 0 (by conv => lhs; cbv; try simp only [k1, k2]; cbv; try simp only [k1, k2]; cbv; try simp only [k1, k2]; cbv; try simp only [k1, k2]; cbv) ?_
 refine goA 60 ?_
 refine on_loopP (ι := List Fld × List Fld × Int × List Int × AV × AObj) (fun p => ([(10, int p.2.2.1), (9, p.2.2.2.2.1), (3, .ptr 1 0), (2, .ptr 0 0)], [.cells [str an, .isl 2 fa], .cells [str bn, .isl 2 es], p.2.2.2.2.2])) (fun p => lb = p.1 ++ p.2.1 ∧ p.2.2.1 = p.1.length ∧ R = (cmpL la p.2.1).map (p.2.2.2.1 ++ ·) ∧ p.2.2.2.1.length = p.1.length ∧ OJ p.2.2.2.1 p.2.2.2.2.1 p.2.2.2.2.2) (fun p => p.2.1.length) ([], lb, 0, [], .val (.slice none 0 0), .dead) ⟨rfl, rfl, by rw [hR]; cases cmpL la lb <;> rfl, rfl, .inl ⟨rfl, rfl, rfl⟩⟩ ?_ ?_
 · exact (ent_sub [.to 0, .to 1] [some 0, some 1, none] ⟨⟨by simp, rfl⟩, ⟨by simp, rfl⟩, trivial⟩ ⟨osrc_cells (b := 0) rfl rfl rfl ⟨.refl _, .cl kfa, trivial⟩, osrc_cells (b := 1) rfl rfl rfl ⟨.refl _, .cl kfb, trivial⟩, .dead, trivial⟩ ⟨.refl _, .refl _, .refl _, .refl _, trivial⟩)
 rintro ⟨d, r, i, acc, ov, oa⟩ ⟨g1, gi, gR, gl, gO⟩
 dsimp only at g1 gi gR gl gO ⊢
 cases r with
 | nil =>
  have L1 := len_split g1
  try simp only [List.length] at L1
  have hc : iLt i (lenA es) = false := lt_f e_iLt e_lenA (by omega)
  have gR2 : R = some acc := by rw [gR]; simp [cmpL]
  rw [gR2]
  simp only [Option.getD_some, Option.isSome_some]
  rcases gO with ⟨rfl, rfl, rfl⟩ | ⟨hne, rfl, rfl⟩
  · rw [mapE_nil]
    refine goB hX 0 (by conv => lhs; cbv; try simp only [hc]; cbv; try simp only [hc]; cbv; try simp only [hc]; cbv; try simp only [hc]; cbv) ?_
    refine goA 60 ?_
    refine loopP_exit ?_
    refine goA 60 ?_
    refine fn_ret rfl rfl ?_
    exact ⟨[.gone, .gone, .gone], ⟨trivial, trivial, trivial, trivial⟩, .tup' ⟨.nilI _, .refl _, .refl _, trivial⟩⟩
  · have kcS := closedL_int acc
    have kcI := closedI_int acc
    have hll := mapE_len int acc
    generalize mapE int acc = el at *
    generalize acc.length = n0 at *
    refine goB hX 0 (by conv => lhs; cbv; try simp only [hc]; cbv; try simp only [hc]; cbv; try simp only [hc]; cbv; try simp only [hc]; cbv) ?_
    refine goA 60 ?_
    refine loopP_exit ?_
    refine goA 60 ?_
    refine fn_ret rfl rfl ?_
    exact ⟨[.gone, .gone, .isl 1 (el)], ⟨trivial, trivial, ⟨_, rfl, (subL_closed _ kcS).symm⟩, trivial⟩, .tup' ⟨.of (sub_whole rfl (by omega)), .refl _, .refl _, trivial⟩⟩
 | cons f r =>
  have L1 := len_split g1
  try simp only [List.length] at L1
  have hc : iLt i (lenA es) = true := lt_t e_iLt e_lenA (by omega)
  have hat := el_at e_atA hes g1 gi
  rw [Fld.enc_eq] at hat
  have hi2 : iAdd .i64 i 1 = ((d ++ [f]).length : Int) := by rw [List.length_append]; exact inc_w e_iAdd gi (by omega)
  have pq := pp f.nm
  rw [cmp_step] at gR
  clear pp pca pcb
  rcases pos_cases la f.nm with ⟨h1, h2⟩ | ⟨d2, g, r2, h1, h2, h3, h4⟩
  · obtain ⟨P, hP⟩ : ∃ P : Int, P = -1 := ⟨_, rfl⟩
    have kP : iLt P 0 = true := by simp only [ee]; rw [hP]; rfl
    rw [h1] at gR pq
    rw [← hP] at pq
    rw [if_pos (by decide)] at gR
    rw [gR]
    simp only [Option.getD_none, Option.isSome_none]
    rw [mapE_nil]
    generalize ba f.nm = fs at *
    generalize f.kd = fk at *
    cases la with
    | nil =>
     have hatP : atA fa P = .undef := by simp only [ee]; rw [← hfa, mapE_nil]; rfl
     rcases gO with ⟨rfl, rfl, rfl⟩ | ⟨hne, rfl, rfl⟩
     ·
      refine goB hX 0 (by conv => lhs; cbv; try simp only [hc, hat, kP, hatP]; cbv; try simp only [hc, hat, kP, hatP]; cbv; try simp only [hc, hat, kP, hatP]; cbv; try simp only [hc, hat, kP, hatP]; cbv) ?_
      refine goB hX 1 (by conv => lhs; cbv; try simp only [hc, hat, kP, hatP]; cbv; try simp only [hc, hat, kP, hatP]; cbv; try simp only [hc, hat, kP, hatP]; cbv; try simp only [hc, hat, kP, hatP]; cbv) ?_
      refine tr_drawB rfl (by conv => lhs; cbv) rfl ?_
      refine tgB hX (by conv => lhs; cbv; try simp only [hc, hat, kP, hatP]; cbv; try simp only [hc, hat, kP, hatP]; cbv; try simp only [hc, hat, kP, hatP]; cbv; try simp only [hc, hat, kP, hatP]; cbv) ?_
      refine oPT pq ?_
      refine tgA ?_
      refine tr_nil ⟨rfl, by simp [LooksL, lookAll], ?_⟩
      refine goB hX 0 (by conv => lhs; cbv; try simp only [hc, hat, kP, hatP]; cbv; try simp only [hc, hat, kP, hatP]; cbv; try simp only [hc, hat, kP, hatP]; cbv; try simp only [hc, hat, kP, hatP]; cbv) ?_
      refine tr_drawB rfl (by conv => lhs; cbv) rfl ?_
      refine tgA ?_
      refine tgB hX (by conv => lhs; cbv; try simp only [hc, hat, kP, hatP]; cbv; try simp only [hc, hat, kP, hatP]; cbv; try simp only [hc, hat, kP, hatP]; cbv; try simp only [hc, hat, kP, hatP]; cbv) ?_
      refine tr_skipq (.inl rfl) ?_
      refine tr_skipq (.inl rfl) ?_
      refine tr_skipq (.inl rfl) ?_
      refine tr_skipq (.inl rfl) ?_
      refine tr_skipq (.inl rfl) ?_
      refine tr_skipq (.inl rfl) ?_
      refine tr_skipq (.inl rfl) ?_
      refine tr_skipq (.inl rfl) ?_
      refine tr_skipq (.inl rfl) ?_
      refine tr_skipq (.inl rfl) ?_
      refine tr_skipq (.inl rfl) ?_
      refine tr_skipq (.inl rfl) ?_
      refine tr_skipq (.inl rfl) ?_
      refine tgA ?_
      refine tr_nil ⟨rfl, by simp [LooksL], ?_⟩
      refine goA 60 ?_
      refine loopP_ret ?_
      refine goA 60 ?_
      refine fn_ret rfl rfl ?_
      exact ⟨[.gone, .gone, .gone], ⟨trivial, trivial, trivial, trivial⟩, .tup' ⟨.nilI _, .refl _, .refl _, trivial⟩⟩
     · have kcS := closedL_int acc
       generalize mapE int acc = el at *
       generalize acc.length = n0 at *
       refine goB hX 0 (by conv => lhs; cbv; try simp only [hc, hat, kP, hatP]; cbv; try simp only [hc, hat, kP, hatP]; cbv; try simp only [hc, hat, kP, hatP]; cbv; try simp only [hc, hat, kP, hatP]; cbv) ?_
       refine goB hX 1 (by conv => lhs; cbv; try simp only [hc, hat, kP, hatP]; cbv; try simp only [hc, hat, kP, hatP]; cbv; try simp only [hc, hat, kP, hatP]; cbv; try simp only [hc, hat, kP, hatP]; cbv) ?_
       refine tr_drawB rfl (by conv => lhs; cbv) rfl ?_
       refine tgB hX (by conv => lhs; cbv; try simp only [hc, hat, kP, hatP]; cbv; try simp only [hc, hat, kP, hatP]; cbv; try simp only [hc, hat, kP, hatP]; cbv; try simp only [hc, hat, kP, hatP]; cbv) ?_
       refine oPT pq ?_
       refine tgA ?_
       refine tr_nil ⟨rfl, by simp [LooksL, lookAll], ?_⟩
       refine goB hX 0 (by conv => lhs; cbv; try simp only [hc, hat, kP, hatP]; cbv; try simp only [hc, hat, kP, hatP]; cbv; try simp only [hc, hat, kP, hatP]; cbv; try simp only [hc, hat, kP, hatP]; cbv) ?_
       refine tr_drawB rfl (by conv => lhs; cbv) rfl ?_
       refine tgA ?_
       refine tgB hX (by conv => lhs; cbv; try simp only [hc, hat, kP, hatP]; cbv; try simp only [hc, hat, kP, hatP]; cbv; try simp only [hc, hat, kP, hatP]; cbv; try simp only [hc, hat, kP, hatP]; cbv) ?_
       refine tr_skipq (.inl rfl) ?_
       refine tr_skipq (.inl rfl) ?_
       refine tr_skipq (.inl rfl) ?_
       refine tr_skipq (.inl rfl) ?_
       refine tr_skipq (.inl rfl) ?_
       refine tr_skipq (.inl rfl) ?_
       refine tr_skipq (.inl rfl) ?_
       refine tr_skipq (.inl rfl) ?_
       refine tr_skipq (.inl rfl) ?_
       refine tr_skipq (.inl rfl) ?_
       refine tr_skipq (.inl rfl) ?_
       refine tr_skipq (.inl rfl) ?_
       refine tr_skipq (.inl rfl) ?_
       refine tgA ?_
       refine tr_nil ⟨rfl, by simp [LooksL], ?_⟩
       refine goA 60 ?_
       refine loopP_ret ?_
       refine goA 60 ?_
       refine fn_ret rfl rfl ?_
       exact ⟨[.gone, .gone, .gone], ⟨trivial, trivial, trivial, trivial⟩, .tup' ⟨.nilI _, .refl _, .refl _, trivial⟩⟩
    | cons g0 la =>
     have hatP : atA fa P = .agg [str (ba g0.nm), int g0.kd] := by simp only [ee]; rw [← hfa, hP, mapE_eq, ← Fld.enc_eq]; rfl
     generalize ba g0.nm = gs at *
     generalize g0.kd = gk at *
     rcases gO with ⟨rfl, rfl, rfl⟩ | ⟨hne, rfl, rfl⟩
     ·
      refine goB hX 0 (by conv => lhs; cbv; try simp only [hc, hat, kP, hatP]; cbv; try simp only [hc, hat, kP, hatP]; cbv; try simp only [hc, hat, kP, hatP]; cbv; try simp only [hc, hat, kP, hatP]; cbv) ?_
      refine goB hX 1 (by conv => lhs; cbv; try simp only [hc, hat, kP, hatP]; cbv; try simp only [hc, hat, kP, hatP]; cbv; try simp only [hc, hat, kP, hatP]; cbv; try simp only [hc, hat, kP, hatP]; cbv) ?_
      refine tr_drawB rfl (by conv => lhs; cbv) rfl ?_
      refine tgB hX (by conv => lhs; cbv; try simp only [hc, hat, kP, hatP]; cbv; try simp only [hc, hat, kP, hatP]; cbv; try simp only [hc, hat, kP, hatP]; cbv; try simp only [hc, hat, kP, hatP]; cbv) ?_
      refine oPT pq ?_
      refine tgA ?_
      refine tr_nil ⟨rfl, by simp [LooksL, lookAll], ?_⟩
      refine goB hX 0 (by conv => lhs; cbv; try simp only [hc, hat, kP, hatP]; cbv; try simp only [hc, hat, kP, hatP]; cbv; try simp only [hc, hat, kP, hatP]; cbv; try simp only [hc, hat, kP, hatP]; cbv) ?_
      refine on_cond rfl (fun c1 => ?_) (fun c1 => ?_)
      ·
       simp [ee] at c1
       refine goA 60 ?_
       refine loopP_ret ?_
       refine goA 60 ?_
       refine fn_ret rfl rfl ?_
       exact ⟨[.gone, .gone, .gone], ⟨trivial, trivial, trivial, trivial⟩, .tup' ⟨.nilI _, .refl _, .refl _, trivial⟩⟩
      ·
       simp [ee] at c1
     · have kcS := closedL_int acc
       generalize mapE int acc = el at *
       generalize acc.length = n0 at *
       refine goB hX 0 (by conv => lhs; cbv; try simp only [hc, hat, kP, hatP]; cbv; try simp only [hc, hat, kP, hatP]; cbv; try simp only [hc, hat, kP, hatP]; cbv; try simp only [hc, hat, kP, hatP]; cbv) ?_
       refine goB hX 1 (by conv => lhs; cbv; try simp only [hc, hat, kP, hatP]; cbv; try simp only [hc, hat, kP, hatP]; cbv; try simp only [hc, hat, kP, hatP]; cbv; try simp only [hc, hat, kP, hatP]; cbv) ?_
       refine tr_drawB rfl (by conv => lhs; cbv) rfl ?_
       refine tgB hX (by conv => lhs; cbv; try simp only [hc, hat, kP, hatP]; cbv; try simp only [hc, hat, kP, hatP]; cbv; try simp only [hc, hat, kP, hatP]; cbv; try simp only [hc, hat, kP, hatP]; cbv) ?_
       refine oPT pq ?_
       refine tgA ?_
       refine tr_nil ⟨rfl, by simp [LooksL, lookAll], ?_⟩
       refine goB hX 0 (by conv => lhs; cbv; try simp only [hc, hat, kP, hatP]; cbv; try simp only [hc, hat, kP, hatP]; cbv; try simp only [hc, hat, kP, hatP]; cbv; try simp only [hc, hat, kP, hatP]; cbv) ?_
       refine on_cond rfl (fun c1 => ?_) (fun c1 => ?_)
       ·
        simp [ee] at c1
        refine goA 60 ?_
        refine loopP_ret ?_
        refine goA 60 ?_
        refine fn_ret rfl rfl ?_
        exact ⟨[.gone, .gone, .gone], ⟨trivial, trivial, trivial, trivial⟩, .tup' ⟨.nilI _, .refl _, .refl _, trivial⟩⟩
       ·
        simp [ee] at c1
  have hgk := cmp_hit h1
  rw [h4] at gR pq
  obtain ⟨P, hP⟩ : ∃ P : Int, P = (d2.length : Int) := ⟨_, rfl⟩
  have L2 := congrArg List.length h1
  rw [List.length_append, List.length_cons] at L2
  have kP : iLt P 0 = false := by simp only [ee]; simp; omega
  have hP0 : 0 ≤ P := by omega
  have hP1 : P < lenA fa := by simp only [ee]; omega
  have hatP := el_at e_atA hfa h1 hP
  rw [Fld.enc_eq, h2] at hatP
  rw [if_neg (by omega), hgk, ← hP] at gR
  rw [← hP] at pq
  generalize ba f.nm = fs at *
  by_cases hk : g.kd = f.kd
  · rw [if_neg (by simp [hk])] at gR
    rw [hk] at hatP
    generalize f.kd = fk at *
    have kkk : iNe fk fk = false := by simp only [ee]; simp
    rcases gO with ⟨rfl, rfl, rfl⟩ | ⟨hne, rfl, rfl⟩
    · have gO2 : OJ ([] ++ [P]) (.sl 2 1 0 1) (.arr 1 [int P]) := .inr ⟨by simp, rfl, by rw [List.nil_append, mapE_eq]; rfl⟩
      refine goB hX 0 (by conv => lhs; cbv; try simp only [hc, hat, kP, hatP, kkk]; cbv; try simp only [hc, hat, kP, hatP, kkk]; cbv; try simp only [hc, hat, kP, hatP, kkk]; cbv; try simp only [hc, hat, kP, hatP, kkk]; cbv) ?_
      refine goB hX 1 (by conv => lhs; cbv; try simp only [hc, hat, kP, hatP, kkk]; cbv; try simp only [hc, hat, kP, hatP, kkk]; cbv; try simp only [hc, hat, kP, hatP, kkk]; cbv; try simp only [hc, hat, kP, hatP, kkk]; cbv) ?_
      refine tr_drawB rfl (by conv => lhs; cbv) rfl ?_
      refine tgB hX (by conv => lhs; cbv; try simp only [hc, hat, kP, hatP, kkk]; cbv; try simp only [hc, hat, kP, hatP, kkk]; cbv; try simp only [hc, hat, kP, hatP, kkk]; cbv; try simp only [hc, hat, kP, hatP, kkk]; cbv) ?_
      refine oPT pq ?_
      refine tgA ?_
      refine tr_nil ⟨rfl, by simp [LooksL, lookAll], ?_⟩
      refine goB hX 0 (by conv => lhs; cbv; try simp only [hc, hat, kP, hatP, kkk]; cbv; try simp only [hc, hat, kP, hatP, kkk]; cbv; try simp only [hc, hat, kP, hatP, kkk]; cbv; try simp only [hc, hat, kP, hatP, kkk]; cbv) ?_
      refine on_cond rfl (fun c1 => ?_) (fun c1 => ?_)
      ·
       simp [ee] at c1
      ·
       simp [ee] at c1
       refine goA 60 ?_
       refine loopP_next (d ++ [f], r, iAdd .i64 i 1, [] ++ [P], .sl 2 1 0 1, .arr 1 [int P]) ⟨by simp [g1], hi2, gR, by rw [List.length_append, List.length_append, gl]; rfl, gO2⟩ (by simp) (ent_sub [.to 0, .to 1, .gone, .gone, .to 2] [some 0, some 1, some 4] ⟨⟨by simp, rfl⟩, ⟨by simp, rfl⟩, trivial, trivial, ⟨by simp, rfl⟩, trivial⟩ ⟨osrc_cells (b := 0) rfl rfl rfl ⟨.refl _, .cl kfa, trivial⟩, osrc_cells (b := 1) rfl rfl rfl ⟨.refl _, .cl kfb, trivial⟩, osrc_arr (b := 4) rfl rfl rfl (by simp only [ee]; rfl) (by rfl), trivial⟩ ⟨.refl _, .of (by simp only [ee]; rfl), .refl _, .refl _, trivial⟩)
    · have hl1 := mapE_len int acc
      have kcS := closedL_int acc
      have hz : mapE int (acc ++ [P]) = mapE int acc ++ [int P] := mapE_snoc int acc P
      obtain ⟨n0, hn0⟩ : ∃ n0, n0 = acc.length := ⟨_, rfl⟩
      have gO2 : OJ (acc ++ [P]) (.sl 2 1 0 (n0 + 1)) (.arr 1 (mapE int acc ++ [int P])) := .inr ⟨by simp, by rw [hn0]; simp, by rw [hz]⟩
      have hn8 : n0 ≤ 8 := by omega
      rw [← hn0] at hl1 ⊢
      generalize mapE int acc = el at *
      have kz : AV.closedL (el ++ [int P]) = true := closedL_append kcS rfl
      have ke1 : addN n0 (lenN (partA [int P] 0 1)) = n0 + 1 := by simp only [ee]; rfl
      have ke2 : catA (dropA el 0) (partA [int P] 0 1) = el ++ [int P] := by simp only [ee]; rfl
      refine goB hX 0 (by conv => lhs; cbv; try simp only [hc, hat, kP, hatP, kkk]; cbv; try simp only [hc, hat, kP, hatP, kkk]; cbv; try simp only [hc, hat, kP, hatP, kkk]; cbv; try simp only [hc, hat, kP, hatP, kkk]; cbv) ?_
      refine goB hX 1 (by conv => lhs; cbv; try simp only [hc, hat, kP, hatP, kkk]; cbv; try simp only [hc, hat, kP, hatP, kkk]; cbv; try simp only [hc, hat, kP, hatP, kkk]; cbv; try simp only [hc, hat, kP, hatP, kkk]; cbv) ?_
      refine tr_drawB rfl (by conv => lhs; cbv) rfl ?_
      refine tgB hX (by conv => lhs; cbv; try simp only [hc, hat, kP, hatP, kkk]; cbv; try simp only [hc, hat, kP, hatP, kkk]; cbv; try simp only [hc, hat, kP, hatP, kkk]; cbv; try simp only [hc, hat, kP, hatP, kkk]; cbv) ?_
      refine oPT pq ?_
      refine tgA ?_
      refine tr_nil ⟨rfl, by simp [LooksL, lookAll], ?_⟩
      refine goB hX 0 (by conv => lhs; cbv; try simp only [hc, hat, kP, hatP, kkk]; cbv; try simp only [hc, hat, kP, hatP, kkk]; cbv; try simp only [hc, hat, kP, hatP, kkk]; cbv; try simp only [hc, hat, kP, hatP, kkk]; cbv) ?_
      refine on_cond rfl (fun c1 => ?_) (fun c1 => ?_)
      ·
       simp [ee] at c1
      ·
       simp [ee] at c1
       refine goA 60 ?_
       refine loopP_next (d ++ [f], r, iAdd .i64 i 1, acc ++ [P], .sl 2 1 0 (n0 + 1), .arr 1 (el ++ [int P])) ⟨by simp [g1], hi2, gR, by rw [List.length_append, List.length_append, gl]; rfl, gO2⟩ (by simp) (ent_sub [.to 0, .to 1, .gone, .gone, .to 2] [some 0, some 1, some 4] ⟨⟨by simp, rfl⟩, ⟨by simp, rfl⟩, trivial, trivial, ⟨by simp, rfl⟩, trivial⟩ ⟨osrc_cells (b := 0) rfl rfl rfl ⟨.refl _, .cl kfa, trivial⟩, osrc_cells (b := 1) rfl rfl rfl ⟨.refl _, .cl kfb, trivial⟩, osrc_arr (b := 4) rfl rfl rfl (by simp only [ee]; rfl) kz, trivial⟩ ⟨.refl _, .of (by simp only [ee]; rfl), .refl _, .refl _, trivial⟩)
  · rw [if_pos (by simpa using hk)] at gR
    rw [gR]
    simp only [Option.getD_none, Option.isSome_none]
    rw [mapE_nil]
    generalize g.kd = gk at *
    generalize f.kd = fk at *
    have kkk : iNe gk fk = true := by simp only [ee]; simpa using hk
    rcases gO with ⟨rfl, rfl, rfl⟩ | ⟨hne, rfl, rfl⟩
    ·
     refine goB hX 0 (by conv => lhs; cbv; try simp only [hc, hat, kP, hatP, kkk]; cbv; try simp only [hc, hat, kP, hatP, kkk]; cbv; try simp only [hc, hat, kP, hatP, kkk]; cbv; try simp only [hc, hat, kP, hatP, kkk]; cbv) ?_
     refine goB hX 1 (by conv => lhs; cbv; try simp only [hc, hat, kP, hatP, kkk]; cbv; try simp only [hc, hat, kP, hatP, kkk]; cbv; try simp only [hc, hat, kP, hatP, kkk]; cbv; try simp only [hc, hat, kP, hatP, kkk]; cbv) ?_
     refine tr_drawB rfl (by conv => lhs; cbv) rfl ?_
     refine tgB hX (by conv => lhs; cbv; try simp only [hc, hat, kP, hatP, kkk]; cbv; try simp only [hc, hat, kP, hatP, kkk]; cbv; try simp only [hc, hat, kP, hatP, kkk]; cbv; try simp only [hc, hat, kP, hatP, kkk]; cbv) ?_
     refine oPT pq ?_
     refine tgA ?_
     refine tr_nil ⟨rfl, by simp [LooksL, lookAll], ?_⟩
     refine goB hX 0 (by conv => lhs; cbv; try simp only [hc, hat, kP, hatP, kkk]; cbv; try simp only [hc, hat, kP, hatP, kkk]; cbv; try simp only [hc, hat, kP, hatP, kkk]; cbv; try simp only [hc, hat, kP, hatP, kkk]; cbv) ?_
     refine on_cond rfl (fun c1 => ?_) (fun c1 => ?_)
     ·
      simp [ee] at c1
      refine goA 60 ?_
      refine loopP_ret ?_
      refine goA 60 ?_
      refine fn_ret rfl rfl ?_
      exact ⟨[.gone, .gone, .gone], ⟨trivial, trivial, trivial, trivial⟩, .tup' ⟨.nilI _, .refl _, .refl _, trivial⟩⟩
     ·
      simp [ee] at c1
    · have kcS := closedL_int acc
      generalize mapE int acc = el at *
      generalize acc.length = n0 at *
      refine goB hX 0 (by conv => lhs; cbv; try simp only [hc, hat, kP, hatP, kkk]; cbv; try simp only [hc, hat, kP, hatP, kkk]; cbv; try simp only [hc, hat, kP, hatP, kkk]; cbv; try simp only [hc, hat, kP, hatP, kkk]; cbv) ?_
      refine goB hX 1 (by conv => lhs; cbv; try simp only [hc, hat, kP, hatP, kkk]; cbv; try simp only [hc, hat, kP, hatP, kkk]; cbv; try simp only [hc, hat, kP, hatP, kkk]; cbv; try simp only [hc, hat, kP, hatP, kkk]; cbv) ?_
      refine tr_drawB rfl (by conv => lhs; cbv) rfl ?_
      refine tgB hX (by conv => lhs; cbv; try simp only [hc, hat, kP, hatP, kkk]; cbv; try simp only [hc, hat, kP, hatP, kkk]; cbv; try simp only [hc, hat, kP, hatP, kkk]; cbv; try simp only [hc, hat, kP, hatP, kkk]; cbv) ?_
      refine oPT pq ?_
      refine tgA ?_
      refine tr_nil ⟨rfl, by simp [LooksL, lookAll], ?_⟩
      refine goB hX 0 (by conv => lhs; cbv; try simp only [hc, hat, kP, hatP, kkk]; cbv; try simp only [hc, hat, kP, hatP, kkk]; cbv; try simp only [hc, hat, kP, hatP, kkk]; cbv; try simp only [hc, hat, kP, hatP, kkk]; cbv) ?_
      refine on_cond rfl (fun c1 => ?_) (fun c1 => ?_)
      ·
       simp [ee] at c1
       refine goA 60 ?_
       refine loopP_ret ?_
       refine goA 60 ?_
       refine fn_ret rfl rfl ?_
       exact ⟨[.gone, .gone, .gone], ⟨trivial, trivial, trivial, trivial⟩, .tup' ⟨.nilI _, .refl _, .refl _, trivial⟩⟩
      ·
       simp [ee] at c1
theorem P_EqualI (l : List Int) (hl : l.length < 1152921504606846976) : PCall EE 24 [.isl 1 (mapE int l), .isl 1 (mapE int l)] (bool true) := by
 have kcl := closedI_int l
 refine wordsN ?_; unhygienic intros
 generalize hes : mapE int l = es at *
 have hel : es.length = l.length := by rw [← hes, mapE_len]
 have k0 : iNe (lenA es) (lenA es) = false := by simp only [ee]; simp
 refine fn_body (fn := Tryd.f24) (n := 26) (ac := Trydc24) (rvs := [.t 4]) rfl (by decide) Trydp24 rfl rfl rfl ?_
 refine goB hX 0 (by conv => lhs; cbv; try simp only [k0]; cbv; try simp only [k0]; cbv; try simp only [k0]; cbv; try simp only [k0]; cbv) ?_
 refine goA 60 ?_
 refine on_loopP (ι := List Int × List Int × Int) (fun p => ([(13, int p.2.2), (12, int (lenA es)), (1, .isl 1 es), (0, .isl 1 es)], [])) (fun p => l = p.1 ++ p.2.1 ∧ p.2.2 = p.1.length) (fun p => p.2.1.length) ([], l, 0) ⟨rfl, rfl⟩ ?_ ?_
 · exact (ent_sub [] [] trivial trivial ⟨.refl _, .refl _, .cl kcl, .cl kcl, trivial⟩)
 rintro ⟨d, r, i⟩ ⟨g1, gi⟩
 dsimp only at g1 gi ⊢
 cases r with
 | nil =>
  have L1 := len_split g1
  try simp only [List.length] at L1
  have hc : iLt i (lenA es) = false := lt_f e_iLt e_lenA (by omega)
  refine goB hX 0 (by conv => lhs; cbv; try simp only [hc]; cbv; try simp only [hc]; cbv; try simp only [hc]; cbv; try simp only [hc]; cbv) ?_
  refine goA 60 ?_
  refine loopP_exit ?_
  refine goA 60 ?_
  refine fn_ret rfl rfl (.val ?_)
  rfl
 | cons n r =>
  have L1 := len_split g1
  try simp only [List.length] at L1
  have hc : iLt i (lenA es) = true := lt_t e_iLt e_lenA (by omega)
  have hat := el_at e_atA hes g1 gi
  have hi2 : iAdd .i64 i 1 = ((d ++ [n]).length : Int) := by rw [List.length_append]; exact inc_w e_iAdd gi (by omega)
  have kn : iNe n n = false := by simp only [ee]; simp
  refine goB hX 0 (by conv => lhs; cbv; try simp only [hc, hat, kn]; cbv; try simp only [hc, hat, kn]; cbv; try simp only [hc, hat, kn]; cbv; try simp only [hc, hat, kn]; cbv) ?_
  refine goB hX 1 (by conv => lhs; cbv; try simp only [hc, hat, kn]; cbv; try simp only [hc, hat, kn]; cbv; try simp only [hc, hat, kn]; cbv; try simp only [hc, hat, kn]; cbv) ?_
  refine goA 60 ?_
  refine loopP_next (d ++ [n], r, iAdd .i64 i 1) ⟨by simp [g1], hi2⟩ (by simp) (ent_sub [] [] trivial trivial ⟨.refl _, .refl _, .cl kcl, .cl kcl, trivial⟩)
theorem P_SameSchema (q : Sch) (hq : q.Short) : PCall EE 46 [q.enc, q.enc] (bool true) := by
 have kcl := Fld.closedI q.fs
 have hl := hq.2.1
 rw [Sch.enc_eq]
 generalize q.fs = l at *
 generalize ba q.nm = qn at *
 clear hq
 refine wordsN ?_; unhygienic intros
 generalize hes : mapE Fld.enc l = es at *
 have hel : es.length = l.length := by rw [← hes, mapE_len]
 have kcA : AV.closedL [str qn, .isl 2 es] = true := by simp [AV.closedL, closed_v, kcl]
 have k0 : iNe (lenA es) (lenA es) = false := by simp only [ee]; simp
 have k1 : sNe qn qn = false := by simp only [ee]; simp
 refine fn_body (fn := Tryd.f46) (n := 38) (ac := Trydc46) (rvs := [.t 4]) rfl (by decide) Trydp46 rfl rfl rfl ?_
 refine goB hX 0 (by conv => lhs; cbv; try simp only [k0, k1]; cbv; try simp only [k0, k1]; cbv; try simp only [k0, k1]; cbv; try simp only [k0, k1]; cbv) ?_
 refine on_cond rfl (fun c1 => ?_) (fun c1 => ?_)
 ·
  simp [ee] at c1
 simp [ee] at c1
 clear c1
 refine goA 60 ?_
 refine on_loopP (ι := List Fld × List Fld × Int) (fun p => ([(5, int p.2.2), (3, .iptr [str qn, .isl 2 es]), (2, .iptr [str qn, .isl 2 es])], [])) (fun p => l = p.1 ++ p.2.1 ∧ p.2.2 = p.1.length) (fun p => p.2.1.length) ([], l, 0) ⟨rfl, rfl⟩ ?_ ?_
 · exact (ent_sub [.icells [str qn, .isl 2 es], .icells [str qn, .isl 2 es]] [] ⟨⟨_, rfl, (subL_closed _ kcA).symm⟩, ⟨_, rfl, (subL_closed _ kcA).symm⟩, trivial⟩ trivial ⟨.refl _, .refl _, .refl _, trivial⟩)
 rintro ⟨d, r, i⟩ ⟨g1, gi⟩
 dsimp only at g1 gi ⊢
 cases r with
 | nil =>
  have L1 := len_split g1
  try simp only [List.length] at L1
  have hc : iLt i (lenA es) = false := lt_f e_iLt e_lenA (by omega)
  refine goB hX 0 (by conv => lhs; cbv; try simp only [hc]; cbv; try simp only [hc]; cbv; try simp only [hc]; cbv; try simp only [hc]; cbv) ?_
  refine goA 60 ?_
  refine loopP_exit ?_
  refine goA 60 ?_
  refine fn_ret rfl rfl (.val ?_)
  rfl
 | cons f r =>
  have L1 := len_split g1
  try simp only [List.length] at L1
  have hc : iLt i (lenA es) = true := lt_t e_iLt e_lenA (by omega)
  have hat := el_at e_atA hes g1 gi
  rw [Fld.enc_eq] at hat
  have hi2 : iAdd .i64 i 1 = ((d ++ [f]).length : Int) := by rw [List.length_append]; exact inc_w e_iAdd gi (by omega)
  generalize ba f.nm = fs at *
  generalize f.kd = fk at *
  have ks : sEq fs fs = true := by simp only [ee]; simp
  have kk : iEq fk fk = true := by simp only [ee]; simp
  refine goB hX 0 (by conv => lhs; cbv; try simp only [hc, hat, ks, kk]; cbv; try simp only [hc, hat, ks, kk]; cbv; try simp only [hc, hat, ks, kk]; cbv; try simp only [hc, hat, ks, kk]; cbv) ?_
  refine goB hX 1 (by conv => lhs; cbv; try simp only [hc, hat, ks, kk]; cbv; try simp only [hc, hat, ks, kk]; cbv; try simp only [hc, hat, ks, kk]; cbv; try simp only [hc, hat, ks, kk]; cbv) ?_
  refine on_cond rfl (fun c1 => ?_) (fun c1 => ?_)
  ·
   simp [ee] at c1
  ·
   simp [ee] at c1
   refine goA 60 ?_
   refine loopP_next (d ++ [f], r, iAdd .i64 i 1) ⟨by simp [g1], hi2⟩ (by simp) (ent_sub [] [] trivial trivial ⟨.refl _, .cl kcA, .cl kcA, trivial⟩)
theorem P_Same (l : List Sch) (hl : l.length < 1152921504606846976) (hs : ∀ q ∈ l, q.Short) : PCall EE 19 [.isl 2 (mapE Sch.enc l), .isl 2 (mapE Sch.enc l)] (bool true) := by
 have kcl := Sch.closedI l
 refine wordsN ?_; unhygienic intros
 generalize hes : mapE Sch.enc l = es at *
 have hel : es.length = l.length := by rw [← hes, mapE_len]
 have k0 : iNe (lenA es) (lenA es) = false := by simp only [ee]; simp
 have n1 : bNot true = false := by simp only [ee]; rfl
 refine fn_body (fn := Tryd.f19) (n := 27) (ac := Trydc19) (rvs := [.t 4]) rfl (by decide) Trydp19 rfl rfl rfl ?_
 refine goB hX 0 (by conv => lhs; cbv; try simp only [k0]; cbv; try simp only [k0]; cbv; try simp only [k0]; cbv; try simp only [k0]; cbv) ?_
 refine goA 60 ?_
 refine on_loopP (ι := List Sch × List Sch × Int) (fun p => ([(5, int p.2.2), (1, .isl 2 es), (0, .isl 2 es)], [])) (fun p => l = p.1 ++ p.2.1 ∧ p.2.2 = p.1.length) (fun p => p.2.1.length) ([], l, 0) ⟨rfl, rfl⟩ ?_ ?_
 · exact (ent_sub [] [] trivial trivial ⟨.refl _, .cl kcl, .cl kcl, trivial⟩)
 rintro ⟨d, r, i⟩ ⟨g1, gi⟩
 dsimp only at g1 gi ⊢
 cases r with
 | nil =>
  have L1 := len_split g1
  try simp only [List.length] at L1
  have hc : iLt i (lenA es) = false := lt_f e_iLt e_lenA (by omega)
  refine goB hX 0 (by conv => lhs; cbv; try simp only [hc]; cbv; try simp only [hc]; cbv; try simp only [hc]; cbv; try simp only [hc]; cbv) ?_
  refine goA 60 ?_
  refine loopP_exit ?_
  refine goA 60 ?_
  refine fn_ret rfl rfl (.val ?_)
  rfl
 | cons f r =>
  have L1 := len_split g1
  try simp only [List.length] at L1
  have hc : iLt i (lenA es) = true := lt_t e_iLt e_lenA (by omega)
  have hat := el_at e_atA hes g1 gi
  have pf := P_SameSchema f (hs f (by rw [g1]; simp))
  rw [Sch.enc_eq] at hat pf
  have kcf := Fld.closedI f.fs
  have hi2 : iAdd .i64 i 1 = ((d ++ [f]).length : Int) := by rw [List.length_append]; exact inc_w e_iAdd gi (by omega)
  generalize ba f.nm = fs at *
  generalize mapE Fld.enc f.fs = fe at *
  have kcA : AV.closedL [str fs, .isl 2 fe] = true := by simp [AV.closedL, closed_v, kcf]
  clear hs
  refine goB hX 0 (by conv => lhs; cbv; try simp only [hc, hat, n1]; cbv; try simp only [hc, hat, n1]; cbv; try simp only [hc, hat, n1]; cbv; try simp only [hc, hat, n1]; cbv) ?_
  refine goB hX 1 (by conv => lhs; cbv; try simp only [hc, hat, n1]; cbv; try simp only [hc, hat, n1]; cbv; try simp only [hc, hat, n1]; cbv; try simp only [hc, hat, n1]; cbv) ?_
  refine tr_drawB rfl (by conv => lhs; cbv) rfl ?_
  refine tgB hX (by conv => lhs; cbv; try simp only [hc, hat, n1]; cbv; try simp only [hc, hat, n1]; cbv; try simp only [hc, hat, n1]; cbv; try simp only [hc, hat, n1]; cbv) ?_
  refine oPT pf ?_
  refine tgA ?_
  refine tr_nil ⟨rfl, by simp [LooksL], ?_⟩
  refine goB hX 0 (by conv => lhs; cbv; try simp only [hc, hat, n1]; cbv; try simp only [hc, hat, n1]; cbv; try simp only [hc, hat, n1]; cbv; try simp only [hc, hat, n1]; cbv) ?_
  refine goA 60 ?_
  refine loopP_next (d ++ [f], r, iAdd .i64 i 1) ⟨by simp [g1], hi2⟩ (by simp) (ent_sub [] [] trivial trivial ⟨.refl _, .cl kcl, .cl kcl, trivial⟩)
def fewS (l : List Sch) : Bool := l.all fun q => decide (q.fs.length ≤ 20 ∧ q.nm.length ≤ 100)
def fewB (l : List Sch) : Bool := fewS l && decide (l.length ≤ 20)
theorem P_Few (l : List Sch) (hl : l.length < 1152921504606846976) (_hs : ∀ q ∈ l, q.Short) : PCall EE 11 [.isl 2 (mapE Sch.enc l)] (bool (fewB l)) := by
 have kcl := Sch.closedI l
 obtain ⟨R, hR⟩ : ∃ R, R = fewB l := ⟨_, rfl⟩
 rw [← hR]
 rw [fewB] at hR
 refine wordsN ?_; unhygienic intros
 generalize hes : mapE Sch.enc l = es at *
 have hel : es.length = l.length := by rw [← hes, mapE_len]
 have kR : iLe (lenA es) 20 = decide (l.length ≤ 20) := by simp only [ee]; rw [Bool.eq_iff_iff]; simp; omega
 refine fn_body (fn := Tryd.f11) (n := 29) (ac := Trydc11) (rvs := [.t 2]) rfl (by decide) Trydp11 rfl rfl rfl ?_
 refine goA 60 ?_
 refine on_loopP (ι := List Sch × List Sch × Int) (fun p => ([(3, int p.2.2), (0, .isl 2 es)], [])) (fun p => l = p.1 ++ p.2.1 ∧ p.2.2 = p.1.length ∧ fewS p.1 = true) (fun p => p.2.1.length) ([], l, 0) ⟨rfl, rfl, rfl⟩ ?_ ?_
 · exact (ent_sub [] [] trivial trivial ⟨.refl _, .cl kcl, trivial⟩)
 rintro ⟨d, r, i⟩ ⟨g1, gi, gd⟩
 dsimp only at g1 gi gd ⊢
 cases r with
 | nil =>
  have L1 := len_split g1
  try simp only [List.length] at L1
  have hc : iLt i (lenA es) = false := lt_f e_iLt e_lenA (by omega)
  have e1 : R = decide (l.length ≤ 20) := by
   rw [hR]
   rw [List.append_nil] at g1
   rw [← g1] at gd
   rw [gd, Bool.true_and]
  rw [← kR] at e1
  subst e1
  clear hR
  refine goB hX 0 (by conv => lhs; cbv; try simp only [hc]; cbv; try simp only [hc]; cbv; try simp only [hc]; cbv; try simp only [hc]; cbv) ?_
  refine goA 60 ?_
  refine loopP_exit ?_
  refine goA 60 ?_
  refine fn_ret rfl rfl (.val ?_)
  rfl
 | cons f r =>
  have L1 := len_split g1
  try simp only [List.length] at L1
  have hc : iLt i (lenA es) = true := lt_t e_iLt e_lenA (by omega)
  have hat := el_at e_atA hes g1 gi
  rw [Sch.enc_eq] at hat
  have hi2 : iAdd .i64 i 1 = ((d ++ [f]).length : Int) := by rw [List.length_append]; exact inc_w e_iAdd gi (by omega)
  have hfl := mapE_len Fld.enc f.fs
  have hsz := ba_size f.nm
  have hf1 : fewS (d ++ [f]) = decide (f.fs.length ≤ 20 ∧ f.nm.length ≤ 100) := by
   rw [fewS] at gd ⊢
   rw [List.all_append, gd]; simp
  have hf0 : ¬ (f.fs.length ≤ 20 ∧ f.nm.length ≤ 100) → R = false := fun h => by
   rw [hR, fewS, g1]
   simp only [List.all_append, List.all_cons]
   rw [decide_eq_false h]; simp
  have ka : 20 < f.fs.length → iLt 20 (lenA (mapE Fld.enc f.fs)) = true := fun h => by simp only [ee]; simp; omega
  have kb : ¬ 20 < f.fs.length → iLt 20 (lenA (mapE Fld.enc f.fs)) = false := fun h => by simp only [ee]; simp; omega
  have kc : 100 < f.nm.length → iLt 100 (sLen (ba f.nm)) = true := fun h => by simp only [ee]; simp; omega
  have kd : ¬ 100 < f.nm.length → iLt 100 (sLen (ba f.nm)) = false := fun h => by simp only [ee]; simp; omega
  generalize mapE Fld.enc f.fs = fe at *
  generalize ba f.nm = fs at *
  by_cases n1 : 20 < f.fs.length
  · have k1 := ka n1
    rw [hf0 (by omega)]
    refine goB hX 0 (by conv => lhs; cbv; try simp only [hc, hat, k1]; cbv; try simp only [hc, hat, k1]; cbv; try simp only [hc, hat, k1]; cbv; try simp only [hc, hat, k1]; cbv) ?_
    refine goB hX 1 (by conv => lhs; cbv; try simp only [hc, hat, k1]; cbv; try simp only [hc, hat, k1]; cbv; try simp only [hc, hat, k1]; cbv; try simp only [hc, hat, k1]; cbv) ?_
    refine on_cond rfl (fun c1 => ?_) (fun c1 => ?_)
    ·
     simp [ee] at c1
     refine goA 60 ?_
     refine loopP_ret ?_
     refine goA 60 ?_
     refine fn_ret rfl rfl (.val ?_)
     rfl
    ·
     simp [ee] at c1
  have k1 := kb n1
  by_cases n2 : 100 < f.nm.length
  · have k2 := kc n2
    rw [hf0 (by omega)]
    refine goB hX 0 (by conv => lhs; cbv; try simp only [hc, hat, k1, k2]; cbv; try simp only [hc, hat, k1, k2]; cbv; try simp only [hc, hat, k1, k2]; cbv; try simp only [hc, hat, k1, k2]; cbv) ?_
    refine goB hX 1 (by conv => lhs; cbv; try simp only [hc, hat, k1, k2]; cbv; try simp only [hc, hat, k1, k2]; cbv; try simp only [hc, hat, k1, k2]; cbv; try simp only [hc, hat, k1, k2]; cbv) ?_
    refine on_cond rfl (fun c1 => ?_) (fun c1 => ?_)
    ·
     simp [ee] at c1
     refine goA 60 ?_
     refine loopP_ret ?_
     refine goA 60 ?_
     refine fn_ret rfl rfl (.val ?_)
     rfl
    ·
     simp [ee] at c1
  have k2 := kd n2
  have hf2 : fewS (d ++ [f]) = true := by rw [hf1]; exact decide_eq_true (by omega)
  refine goB hX 0 (by conv => lhs; cbv; try simp only [hc, hat, k1, k2]; cbv; try simp only [hc, hat, k1, k2]; cbv; try simp only [hc, hat, k1, k2]; cbv; try simp only [hc, hat, k1, k2]; cbv) ?_
  refine goB hX 1 (by conv => lhs; cbv; try simp only [hc, hat, k1, k2]; cbv; try simp only [hc, hat, k1, k2]; cbv; try simp only [hc, hat, k1, k2]; cbv; try simp only [hc, hat, k1, k2]; cbv) ?_
  refine on_cond rfl (fun c1 => ?_) (fun c1 => ?_)
  ·
   simp [ee] at c1
  ·
   simp [ee] at c1
   refine goA 60 ?_
   refine loopP_next (d ++ [f], r, iAdd .i64 i 1) ⟨by simp [g1], hi2, hf2⟩ (by simp) (ent_sub [] [] trivial trivial ⟨.refl _, .cl kcl, trivial⟩)
def xTrade : Bs := [116, 114, 97, 100, 101]
def xPrice : Bs := [112, 114, 105, 99, 101]
def xSymbol : Bs := [115, 121, 109, 98, 111, 108]
def xClock : Bs := [99, 108, 111, 99, 107]
def xT : Bs := [116]
def xS0 : Sch := ⟨xTrade, [⟨xSymbol, 2⟩, ⟨xPrice, 0⟩]⟩
def xL : List Sch := [xS0, ⟨xClock, []⟩]
def xEx : Bs := [116, 114, 97, 100, 101, 32, 115, 121, 109, 98, 111, 108, 58, 115, 116, 114, 105, 110, 103, 32, 112, 114, 105, 99, 101, 58, 105, 110, 116, 10, 99, 108, 111, 99, 107, 10]
def xB1 : Bs := [116, 114, 97, 100, 101, 32, 112, 114, 105, 99, 101, 58, 105, 110, 116, 32, 112, 114, 105, 99, 101, 58, 98, 111, 111, 108]
def xB2 : Bs := [116, 114, 97, 100, 101, 32, 112, 114, 105, 99, 101]
def xB3 : Bs := [116, 114, 97, 100, 101, 32, 116, 105, 109, 101, 58, 105, 110, 116]
def xB4 : Bs := [57, 32, 120]
theorem xL_chk : chkAll xL = 0 := by decide
theorem xL_fmt : fmt xL = xEx := by decide
theorem xEx_prs : prs xEx = (xL, 0, 0) := by rw [← xL_fmt]; exact prs_fmt xL_chk
theorem toks2 {w v : Bs} (h0 : w ≠ []) (h1 : w.all nsp = true) (g0 : v ≠ []) (g1 : v.all nsp = true) : toks (w ++ 32 :: v) 0 true = [⟨0, true, w⟩, ⟨w.length + 1, false, v⟩] := by
 rw [toks_word 0 true h0 (fun c hc => List.all_eq_true.1 h1 c hc) (by show nsp 32 = false; decide), toks_sp]
 have := toks_word (r := []) (0 + w.length + 1) false g0 (fun c hc => List.all_eq_true.1 g1 c hc) trivial
 rw [List.append_nil] at this
 rw [this, toks_nil, Nat.zero_add]
theorem toks3 {w v u : Bs} (h0 : w ≠ []) (h1 : w.all nsp = true) (g0 : v ≠ []) (g1 : v.all nsp = true) (f0 : u ≠ []) (f1 : u.all nsp = true) : toks (w ++ 32 :: (v ++ 32 :: u)) 0 true = [⟨0, true, w⟩, ⟨w.length + 1, false, v⟩, ⟨w.length + 1 + v.length + 1, false, u⟩] := by
 rw [toks_word 0 true h0 (fun c hc => List.all_eq_true.1 h1 c hc) (by show nsp 32 = false; decide), toks_sp, toks_word _ false g0 (fun c hc => List.all_eq_true.1 g1 c hc) (by show nsp 32 = false; decide), toks_sp]
 have := toks_word (r := []) (0 + w.length + 1 + v.length + 1) false f0 (fun c hc => List.all_eq_true.1 f1 c hc) trivial
 rw [List.append_nil] at this
 rw [this, toks_nil, Nat.zero_add]
theorem xB1_prs : (prs xB1).2 = (16, 7) := by
 rw [prs, if_neg (by decide), show xB1 = xTrade ++ 32 :: ((xPrice ++ 58 :: bInt) ++ 32 :: (xPrice ++ 58 :: bBool)) from rfl, toks3 (by decide) (by decide) (by decide) (by decide) (by decide) (by decide)]
 decide
theorem xB2_prs : (prs xB2).2 = (6, 4) := by
 rw [prs, if_neg (by decide), show xB2 = xTrade ++ 32 :: xPrice from rfl, toks2 (by decide) (by decide) (by decide) (by decide)]
 decide
theorem xB3_prs : (prs xB3).2 = (6, 8) := by
 rw [prs, if_neg (by decide), show xB3 = xTrade ++ 32 :: (bTime ++ 58 :: bInt) from rfl, toks2 (by decide) (by decide) (by decide) (by decide)]
 decide
theorem xB4_prs : (prs xB4).2 = (0, 8) := by
 rw [prs, if_neg (by decide), show xB4 = [57] ++ 32 :: [120] from rfl, toks2 (by decide) (by decide) (by decide) (by decide)]
 decide
theorem xI : idxI xS0 xPrice = 1 ∧ idxE xS0 xPrice = 0 := by decide
def xQ : Sch := ⟨xT, [⟨xPrice, 0⟩, ⟨xSymbol, 2⟩]⟩
def xR : Sch := ⟨xT, [⟨xPrice, 1⟩]⟩
theorem xC1 : cmpQ xS0 xQ = some [1, 0] ∧ cmpE xS0 xQ = 0 := by decide
theorem xC2 : cmpQ xS0 xR = none ∧ cmpE xS0 xR = 0 := by decide
theorem on_gpcallv {E : Env} {n N : Nat} {Q : AExit → AFr → AHeap → Prop} {k : List KI} {F : AFr} {H : AHeap} {o : AOper} {l : List AOper} {x : Opd} {xs : List Opd} {f : FuncId} {cs args : List AV} {v : AV} {d : Nat} {b : Bool} (hg : o.guard = some (d, b)) (hd : F.get d = .val (.bool b)) (ho : o.op = .callv x xs) (hf : x.ev E.G F = .fn f cs) (ha : xs.map (·.ev E.G F) ++ cs = args) (hc : PCall E f args v) (hcl : AV.closedL args = true)
 (h : Holds E n N Q (.ops l) k (F.set o.dst v) H) : Holds E n N Q (.ops (o :: l)) k F H :=
 aops_callv (R := fun v' H' => v' = v ∧ H' = H) (by rw [hg]; simp only [wantA, hd]; cases b <;> rfl) ho hf rfl ⟨hc.1, by rw [ha]; exact hc.lift hcl⟩ (by rintro _ _ ⟨rfl, rfl⟩; exact h)
theorem P_awake1 (s : Bs) (i e : Int) (hs : s.length < 4294967281) (h : (prs s).2 = (i, e)) : PCall EE 33 [str (ba s), int i, int e] (bool true) := by
 have pp := P_Parse s hs
 have kcl := Sch.closedI (prs s).1
 rw [h] at pp
 dsimp only at pp
 generalize mapE Sch.enc (prs s).1 = es at *
 generalize ba s = b at *
 clear h
 refine wordsN ?_; unhygienic intros
 have k1 : iEq i i = true := by simp only [ee]; simp
 have k2 : iEq e e = true := by simp only [ee]; simp
 refine fn_body (fn := Tryd.f33) (n := 24) (ac := Trydc33) (rvs := [.t 6]) rfl (by decide) Trydp33 rfl rfl rfl ?_
 refine goA 60 ?_
 refine oPA pp ?_
 refine goA 60 ?_
 refine fn_ret rfl rfl (.val ?_)
 exact congrArg Value.bool (by simp only [ee]; simp)
theorem Sch.short_of {q : Sch} (h : q.nm.length ≤ 1000 ∧ q.fs.length ≤ 1000 ∧ ∀ f ∈ q.fs, f.nm.length ≤ 1000) : q.Short := ⟨by omega, by omega, fun f hf => by have := h.2.2 f hf; omega⟩
theorem xS0_short : xS0.Short := Sch.short_of (by decide)
theorem xQ_short : xQ.Short := Sch.short_of (by decide)
theorem xR_short : xR.Short := Sch.short_of (by decide)
theorem xL_short : ∀ q ∈ xL, q.Short := fun q hq => by
 simp only [xL, List.mem_cons, List.not_mem_nil, or_false] at hq
 rcases hq with rfl | rfl
 · exact xS0_short
 · exact Sch.short_of (by decide)
theorem P_awake : PCall EE 12 [] (bool true) := by
 have p1 := P_Parse xEx (by decide)
 rw [xEx_prs] at p1
 dsimp only at p1
 have p2 := P_Index xS0 xPrice xS0_short
 rw [xI.1, xI.2] at p2
 have p3 := P_Format xL (by decide) xL_short
 rw [xL_chk, if_neg (by decide), xL_fmt] at p3
 have p4 := P_Compatible xS0 xQ xS0_short xQ_short
 rw [xC1.1, xC1.2] at p4
 have p5 := P_Compatible xS0 xR xS0_short xR_short
 rw [xC2.1, xC2.2] at p5
 have p6 := P_EqualI [1, 0] (by decide)
 have p7 := P_awake1 xB1 16 7 (by decide) xB1_prs
 have p8 := P_awake1 xB2 6 4 (by decide) xB2_prs
 have p9 := P_awake1 xB3 6 8 (by decide) xB3_prs
 have p0 := P_awake1 xB4 0 8 (by decide) xB4_prs
 simp only [Option.getD_some, Option.getD_none, Option.isSome_some, Option.isSome_none] at p4 p5
 have q0 := Sch.enc_eq xS0
 have q1 := Sch.enc_eq xQ
 have q2 := Sch.enc_eq xR
 have kcl := Sch.closedI xL
 have hlen := mapE_len Sch.enc xL
 have hat0 : (mapE Sch.enc xL).getD 0 .undef = xS0.enc := by rw [mapE_eq]; rfl
 have f1 : mapE Fld.enc xQ.fs = [.agg [str (ba xPrice), int 0], .agg [str (ba xSymbol), int 2]] := by rw [mapE_eq]; simp only [xQ, List.map_cons, List.map_nil, Fld.enc_eq]
 have f2 : mapE Fld.enc xR.fs = [.agg [str (ba xPrice), int 1]] := by rw [mapE_eq]; simp only [xR, List.map_cons, List.map_nil, Fld.enc_eq]
 rw [q0] at p2 p4 p5 hat0
 rw [q1, f1] at p4
 rw [q2, f2] at p5
 have kf0 := Fld.closedI xS0.fs
 rw [show xQ.nm = xT from rfl] at p4
 rw [show xR.nm = xT from rfl] at p5
 have z1 : mapE int [1, 0] = [int 1, int 0] := by rw [mapE_eq]; rfl
 rw [z1] at p4 p6
 rw [mapE_nil] at p5
 clear q0 q1 q2 f1 f2
 have b1 : ba xEx = ⟨#[116, 114, 97, 100, 101, 32, 115, 121, 109, 98, 111, 108, 58, 115, 116, 114, 105, 110, 103, 32, 112, 114, 105, 99, 101, 58, 105, 110, 116, 10, 99, 108, 111, 99, 107, 10]⟩ := ba_eq _
 have b2 : ba xPrice = ⟨#[112, 114, 105, 99, 101]⟩ := ba_eq _
 have b3 : ba xSymbol = ⟨#[115, 121, 109, 98, 111, 108]⟩ := ba_eq _
 have b4 : ba xT = ⟨#[116]⟩ := ba_eq _
 have b5 : ba xB1 = ⟨#[116, 114, 97, 100, 101, 32, 112, 114, 105, 99, 101, 58, 105, 110, 116, 32, 112, 114, 105, 99, 101, 58, 98, 111, 111, 108]⟩ := ba_eq _
 have b6 : ba xB2 = ⟨#[116, 114, 97, 100, 101, 32, 112, 114, 105, 99, 101]⟩ := ba_eq _
 have b7 : ba xB3 = ⟨#[116, 114, 97, 100, 101, 32, 116, 105, 109, 101, 58, 105, 110, 116]⟩ := ba_eq _
 have b8 : ba xB4 = ⟨#[57, 32, 120]⟩ := ba_eq _
 rw [b1] at p1 p3
 rw [b2] at p2 p5
 rw [b2, b3, b4] at p4
 rw [b4] at p5
 rw [b5] at p7
 rw [b6] at p8
 rw [b7] at p9
 rw [b8] at p0
 generalize ba xS0.nm = nm0 at *
 generalize mapE Fld.enc xS0.fs = fs0 at *
 refine wordsN ?_; unhygienic intros
 generalize mapE Sch.enc xL = es at *
 have hel : es.length = 2 := hlen
 have k1 : lenA es = 2 := by simp only [ee]; rw [hel]; rfl
 have k2 : atA es 0 = .agg [str nm0, .isl 2 fs0] := by simp only [ee]; exact hat0
 have k3 : iNe 0 0 = false := by simp only [ee]; rfl
 have k4 : iNe 2 2 = false := by simp only [ee]; rfl
 have k5 : iAdd .i64 0 0 = 0 := by simp only [ee]; rfl
 have k6 : iEq 0 0 = true := by simp only [ee]; rfl
 have k7 : iEq 1 1 = true := by simp only [ee]; rfl
 have k8 : sEq ⟨#[116, 114, 97, 100, 101, 32, 115, 121, 109, 98, 111, 108, 58, 115, 116, 114, 105, 110, 103, 32, 112, 114, 105, 99, 101, 58, 105, 110, 116, 10, 99, 108, 111, 99, 107, 10]⟩ ⟨#[116, 114, 97, 100, 101, 32, 115, 121, 109, 98, 111, 108, 58, 115, 116, 114, 105, 110, 103, 32, 112, 114, 105, 99, 101, 58, 105, 110, 116, 10, 99, 108, 111, 99, 107, 10]⟩ = true := by simp only [ee]; simp
 have n0 : bNot false = true := by simp only [ee]; rfl
 have kcA : AV.closedL [str nm0, .isl 2 fs0] = true := by simp [AV.closedL, closed_v, kf0]
 have kcB : (AV.agg [str nm0, .isl 2 fs0]).closed = true := by rw [closed_agg]; exact kcA
 have kX1 : (AV.isl 2 [.agg [str ⟨#[112, 114, 105, 99, 101]⟩, int 0], .agg [str ⟨#[115, 121, 109, 98, 111, 108]⟩, int 2]]).closed = true := rfl
 have kX2 : (AV.isl 2 [.agg [str ⟨#[112, 114, 105, 99, 101]⟩, int 1]]).closed = true := rfl
 clear hlen hat0 b1 b2 b3 b4 b5 b6 b7 b8
 refine fn_body (fn := Tryd.f12) (n := 110) (ac := Trydc12) (rvs := [.t 0]) rfl (by decide) Trydp12 rfl rfl rfl ?_
 refine goA 60 ?_
 refine on_pcall rfl rfl rfl p1 rfl ?_
 refine goB hX 0 (by conv => lhs; cbv; try simp only [k1, k2, k3, k4, k5, k6, k7, k8, n0]; cbv; try simp only [k1, k2, k3, k4, k5, k6, k7, k8, n0]; cbv; try simp only [k1, k2, k3, k4, k5, k6, k7, k8, n0]; cbv; try simp only [k1, k2, k3, k4, k5, k6, k7, k8, n0]; cbv) ?_
 refine on_cond rfl (fun c1 => ?_) (fun c1 => ?_)
 ·
  simp [ee] at c1
 simp [ee] at c1
 clear c1
 refine goB hX 0 (by conv => lhs; cbv; try simp only [k1, k2, k3, k4, k5, k6, k7, k8, n0]; cbv; try simp only [k1, k2, k3, k4, k5, k6, k7, k8, n0]; cbv; try simp only [k1, k2, k3, k4, k5, k6, k7, k8, n0]; cbv; try simp only [k1, k2, k3, k4, k5, k6, k7, k8, n0]; cbv) ?_
 refine oPA p2 ?_
 refine goA 60 ?_
 refine oPA p3 ?_
 refine goB hX 0 (by conv => lhs; cbv; try simp only [k1, k2, k3, k4, k5, k6, k7, k8, n0]; cbv; try simp only [k1, k2, k3, k4, k5, k6, k7, k8, n0]; cbv; try simp only [k1, k2, k3, k4, k5, k6, k7, k8, n0]; cbv; try simp only [k1, k2, k3, k4, k5, k6, k7, k8, n0]; cbv) ?_
 refine tr_drawB rfl (by conv => lhs; cbv) rfl ?_
 refine tr_gof 5 hX (by conv => lhs; cbv; try simp only [k1, k2]; cbv; try simp only [k1, k2]; cbv; try simp only [k1, k2]; cbv; try simp only [k1, k2]; cbv) ?_ ?_
 · first | exact trivial | (simp only [Cd.ok]; and_intros <;> first | omega | rfl | (simp <;> omega))
 refine tr_bslf rfl rfl rfl rfl ?_
 refine tgB hX (by conv => lhs; cbv; try simp only [k1, k2]; cbv; try simp only [k1, k2]; cbv; try simp only [k1, k2]; cbv; try simp only [k1, k2]; cbv) ?_
 refine oPT p4 ?_
 refine tgA ?_
 refine tr_nil ⟨rfl, ?_, ?_⟩
 · simp only [LooksL, lookAll, List.cons_append, List.nil_append, List.append_nil]; and_intros <;> first | trivial | (intro hp; first | rfl | exact absurd (show false = true from hp) Bool.false_ne_true)
 refine goB hX 0 (by conv => lhs; cbv; try simp only [k1, k2, k3, k4, k5, k6, k7, k8, n0]; cbv; try simp only [k1, k2, k3, k4, k5, k6, k7, k8, n0]; cbv; try simp only [k1, k2, k3, k4, k5, k6, k7, k8, n0]; cbv; try simp only [k1, k2, k3, k4, k5, k6, k7, k8, n0]; cbv) ?_
 refine on_entO (F' := [(58, .agg [str nm0, .isl 2 fs0]), (61, .agg [str ⟨#[116]⟩, .isl 2 [.agg [str ⟨#[112, 114, 105, 99, 101]⟩, int 1]]]), (4, int 1), (5, int 0), (6, str ⟨#[116, 114, 97, 100, 101, 32, 115, 121, 109, 98, 111, 108, 58, 115, 116, 114, 105, 110, 103, 32, 112, 114, 105, 99, 101, 58, 105, 110, 116, 10, 99, 108, 111, 99, 107, 10]⟩), (7, int 0), (8, .fn 33 []), (11, .isl 1 [int 1, int 0]), (12, bool true), (13, int 0)]) (H' := []) (ent_sub [.gone, .gone, .isl 2 [.agg [str ⟨#[112, 114, 105, 99, 101]⟩, int 1]]] [] ⟨trivial, trivial, ⟨_, rfl, rfl⟩, trivial⟩ trivial ⟨.cl kcB, .refl _, .refl _, .refl _, .refl _, .refl _, .refl _, .refl _, .refl _, .refl _, trivial⟩) ?_
 refine oPA p5 ?_
 refine goB hX 0 (by conv => lhs; cbv; try simp only [k1, k2, k3, k4, k5, k6, k7, k8, n0]; cbv; try simp only [k1, k2, k3, k4, k5, k6, k7, k8, n0]; cbv; try simp only [k1, k2, k3, k4, k5, k6, k7, k8, n0]; cbv; try simp only [k1, k2, k3, k4, k5, k6, k7, k8, n0]; cbv) ?_
 refine on_guard rfl rfl (fun c1 => ?_) (fun c1 => ?_)
 rotate_left
 ·
  simp [ee] at c1
 simp [ee] at c1
 clear c1
 refine goA 60 ?_
 refine on_lend rfl rfl p6 rfl ⟨[.isl 1 [int 1, int 0]], ⟨⟨_, rfl, rfl⟩, trivial⟩, ⟨.refl _, .of rfl, trivial⟩⟩ ?_
 refine goB hX 0 (by conv => lhs; cbv; try simp only [k1, k2, k3, k4, k5, k6, k7, k8, n0]; cbv; try simp only [k1, k2, k3, k4, k5, k6, k7, k8, n0]; cbv; try simp only [k1, k2, k3, k4, k5, k6, k7, k8, n0]; cbv; try simp only [k1, k2, k3, k4, k5, k6, k7, k8, n0]; cbv) ?_
 refine on_guard rfl rfl (fun c2 => ?_) (fun c2 => ?_)
 rotate_left
 ·
  simp [ee] at c2
 simp [ee] at c2
 clear c2
 refine goA 60 ?_
 refine on_gpcallv (args := [str ⟨#[116, 114, 97, 100, 101, 32, 112, 114, 105, 99, 101, 58, 105, 110, 116, 32, 112, 114, 105, 99, 101, 58, 98, 111, 111, 108]⟩, int 16, int 7]) rfl rfl rfl rfl rfl p7 rfl ?_
 refine goA 60 ?_
 refine on_gpcallv (args := [str ⟨#[116, 114, 97, 100, 101, 32, 112, 114, 105, 99, 101]⟩, int 6, int 4]) rfl rfl rfl rfl rfl p8 rfl ?_
 refine goA 60 ?_
 refine on_gpcallv (args := [str ⟨#[116, 114, 97, 100, 101, 32, 116, 105, 109, 101, 58, 105, 110, 116]⟩, int 6, int 8]) rfl rfl rfl rfl rfl p9 rfl ?_
 refine goA 60 ?_
 refine on_gpcallv (args := [str ⟨#[57, 32, 120]⟩, int 0, int 8]) rfl rfl rfl rfl rfl p0 rfl ?_
 refine goA 60 ?_
 refine fn_ret rfl rfl (.val ?_)
 rfl
theorem P_lawParses (s : Bs) (hs : s.length < 1048577) : PCall EK 4 [str (ba s)] (bool true) := by
 have q2 := P_awake.toK
 have q3 := (P_Parse s (by omega)).toK
 have q4 := P_refParse s (by omega)
 have hsz := ba_size s
 have hshort : (prs s).1.length < 1152921504606846976 ∧ ∀ q ∈ (prs s).1, q.Short := by
  by_cases h : (prs s).2.2 = 0
  · obtain ⟨h1, l, h2, h3⟩ := prs_ok h
    have hc := prs_wf h3
    rw [h2]
    obtain ⟨c1, c2, _⟩ := (chkAll_zero l).1 hc
    refine ⟨by dsimp only; omega, fun q hq => Sch.short_of ?_⟩
    obtain ⟨d1, d2, d3, _⟩ := (Sch.chk_zero q).1 (c2 q hq)
    refine ⟨by have := (nameB_ch d1).2.1; omega, by omega, fun f hf => ?_⟩
    have := (d3 f hf).1
    simp only [fnameB, Bool.and_eq_true] at this
    have := (nameB_ch this.1).2.1
    omega
  · rw [(prs_bad h).1]; exact ⟨by simp, by simp⟩
 have q5 := (P_Same (prs s).1 hshort.1 hshort.2).toK
 have kcl := Sch.closedI (prs s).1
 generalize mapE Sch.enc (prs s).1 = es at *
 generalize (prs s).2.1 = pi at *
 generalize (prs s).2.2 = pe at *
 generalize ba s = b at *
 clear hshort
 refine wordsN ?_; unhygienic intros
 have hn : sLen b = (s.length : Int) := by simp only [ee]; omega
 have n0 : bNot false = true := by simp only [ee]; rfl
 have n1 : bNot true = false := by simp only [ee]; rfl
 have t1 : ∀ x : Int, iEq x x = true := fun x => by simp only [ee]; simp
 by_cases h1 : 1000 < s.length
 · have k1 : iLt 1000 (sLen b) = true := by rw [hn]; simp only [ee]; simp; omega
   by_cases h2 : s.length ≤ 65536
   · have k2 : iLe (sLen b) 65536 = true := by rw [hn]; simp only [ee]; simp; omega
     refine fn_body (fn := Tryd.f4) (n := 46) (ac := Trydc4) (rvs := [.t 2]) rfl (by decide) Trydp4 rfl rfl rfl ?_
     refine goB hX 0 (by conv => lhs; cbv; try simp only [k1, k2, n0, n1]; cbv; try simp only [k1, k2, n0, n1]; cbv; try simp only [k1, k2, n0, n1]; cbv; try simp only [k1, k2, n0, n1]; cbv) ?_
     refine on_cond rfl (fun c1 => ?_) (fun c1 => ?_)
     ·
      simp [ee] at c1
      refine goA 60 ?_
      refine oPA q2 ?_
      refine goA 60 ?_
      refine fn_ret rfl rfl (.val ?_)
      rfl
     ·
      simp [ee] at c1
   · have k2 : iLe (sLen b) 65536 = false := by rw [hn]; simp only [ee]; simp; omega
     refine fn_body (fn := Tryd.f4) (n := 46) (ac := Trydc4) (rvs := [.t 2]) rfl (by decide) Trydp4 rfl rfl rfl ?_
     refine goB hX 0 (by conv => lhs; cbv; try simp only [k1, k2, n0, n1, t1]; cbv; try simp only [k1, k2, n0, n1, t1]; cbv; try simp only [k1, k2, n0, n1, t1]; cbv; try simp only [k1, k2, n0, n1, t1]; cbv) ?_
     refine on_cond rfl (fun c1 => ?_) (fun c1 => ?_)
     ·
      simp [ee] at c1
     ·
      simp [ee] at c1
      refine goA 60 ?_
      refine oPA q3 ?_
      refine goA 60 ?_
      refine oPA q4 ?_
      refine goA 60 ?_
      refine oPA q2 ?_
      refine goA 60 ?_
      refine oPG q5 ?_
      refine goA 60 ?_
      refine fn_ret rfl rfl (.val ?_)
      exact congrArg Value.bool (by simp only [ee]; simp)
 · have k1 : iLt 1000 (sLen b) = false := by rw [hn]; simp only [ee]; simp; omega
   refine fn_body (fn := Tryd.f4) (n := 46) (ac := Trydc4) (rvs := [.t 2]) rfl (by decide) Trydp4 rfl rfl rfl ?_
   refine goB hX 0 (by conv => lhs; cbv; try simp only [k1, n0, n1, t1]; cbv; try simp only [k1, n0, n1, t1]; cbv; try simp only [k1, n0, n1, t1]; cbv; try simp only [k1, n0, n1, t1]; cbv) ?_
   refine on_cond rfl (fun c1 => ?_) (fun c1 => ?_)
   ·
    simp [ee] at c1
   ·
    simp [ee] at c1
    refine goA 60 ?_
    refine oPA q3 ?_
    refine goA 60 ?_
    refine oPA q4 ?_
    refine goA 60 ?_
    refine oPA q2 ?_
    refine goA 60 ?_
    refine oPG q5 ?_
    refine goA 60 ?_
    refine fn_ret rfl rfl (.val ?_)
    exact congrArg Value.bool (by simp only [ee]; simp)
theorem P_lawFinds (l : List Sch) (nm : Bs) (hl : l.length < 1048577) (hs : ∀ q ∈ l, q.Short) : PCall EE 7 [.isl 2 (mapE Sch.enc l), str (ba nm)] (bool true) := by
 have q1 := P_Few l (by omega) hs
 have q2 := P_awake
 have q3 := P_Find l nm (by omega) hs
 have q4 := P_refFind l nm (by omega) hs
 have q5 := P_CheckAll l (by omega) hs
 have q6 := P_refCheckAll l (by omega) hs
 have kcl := Sch.closedI l
 generalize fewB l = fb at *
 generalize fndI l nm = fi at *
 generalize fndE l nm = fe at *
 generalize chkAll l = ck at *
 generalize mapE Sch.enc l = es at *
 generalize ba nm = s at *
 clear hl hs
 refine wordsN ?_; unhygienic intros
 have n0 : bNot false = true := by simp only [ee]; rfl
 have n1 : bNot true = false := by simp only [ee]; rfl
 have t1 : ∀ x : Int, iEq x x = true := fun x => by simp only [ee]; simp
 cases fb with
 | false =>
  refine fn_body (fn := Tryd.f7) (n := 43) (ac := Trydc7) (rvs := [.t 4]) rfl (by decide) Trydp7 rfl rfl rfl ?_
  refine goA 60 ?_
  refine oPA q1 ?_
  refine goB hX 0 (by conv => lhs; cbv; try simp only [n0, n1, t1]; cbv; try simp only [n0, n1, t1]; cbv; try simp only [n0, n1, t1]; cbv; try simp only [n0, n1, t1]; cbv) ?_
  refine goA 60 ?_
  refine oPA q2 ?_
  refine goA 60 ?_
  refine fn_ret rfl rfl (.val ?_)
  rfl
 | true =>
  refine fn_body (fn := Tryd.f7) (n := 43) (ac := Trydc7) (rvs := [.t 4]) rfl (by decide) Trydp7 rfl rfl rfl ?_
  refine goA 60 ?_
  refine oPA q1 ?_
  refine goB hX 0 (by conv => lhs; cbv; try simp only [n0, n1, t1]; cbv; try simp only [n0, n1, t1]; cbv; try simp only [n0, n1, t1]; cbv; try simp only [n0, n1, t1]; cbv) ?_
  refine goA 60 ?_
  refine oPA q3 ?_
  refine goA 60 ?_
  refine oPA q4 ?_
  refine goA 60 ?_
  refine oPA q2 ?_
  refine goA 60 ?_
  refine oPG q5 ?_
  refine goA 60 ?_
  refine oPG q6 ?_
  refine goA 60 ?_
  refine fn_ret rfl rfl (.val ?_)
  exact congrArg Value.bool (by simp only [ee]; simp)
theorem chk1_short {q : Sch} (h : q.chk = 0) : q.Short := by
 obtain ⟨d1, d2, d3, _⟩ := (Sch.chk_zero q).1 h
 refine Sch.short_of ⟨by have := (nameB_ch d1).2.1; omega, by omega, fun f hf => ?_⟩
 have := (d3 f hf).1
 simp only [fnameB, Bool.and_eq_true] at this
 have := (nameB_ch this.1).2.1
 omega
theorem chk_short {l : List Sch} (h : chkAll l = 0) : l.length < 1152921504606846976 ∧ ∀ q ∈ l, q.Short := by
 obtain ⟨c1, c2, _⟩ := (chkAll_zero l).1 h
 exact ⟨by omega, fun q hq => chk1_short (c2 q hq)⟩
theorem cmpL_len {a : List Fld} : ∀ {l : List Fld} {x : List Int}, cmpL a l = some x → x.length = l.length
 | [], x, h => by
  rw [cmpL] at h
  simp only [Option.some.injEq] at h
  rw [← h]; rfl
 | f :: l, x, h => by
  rw [cmpL] at h
  split at h
  · cases h
  · split at h
    · cases h
    · obtain ⟨y, hy, e⟩ := Option.map_eq_some_iff.1 h
      rw [← e, List.length_cons, cmpL_len hy]; rfl
theorem cmpQ_len (a b : Sch) : ((cmpQ a b).getD []).length ≤ b.fs.length := by
 rw [cmpQ]
 split
 · simp
 · cases h : cmpL a.fs b.fs with
   | none => simp
   | some x => simpa using Nat.le_of_eq (cmpL_len h)
theorem P_lawChecks (q : Sch) (nm : Bs) (hq : q.Short) : PCall EE 3 [q.enc, str (ba nm)] (bool true) := by
 have q1 := P_Few [q] (by simp) (fun x hx => by simp at hx; rw [hx]; exact hq)
 have q2 := P_awake
 have q3 := P_Index q nm hq
 have q4 := P_refIndex q nm hq
 have q5 := P_Check q hq
 have q6 := P_refCheck q hq
 rw [mapE_eq, List.map_cons, List.map_nil] at q1
 have kcl := Fld.closedI q.fs
 generalize fewB [q] = fb at *
 generalize idxI q nm = fi at *
 generalize idxE q nm = fe at *
 generalize q.chk = ck at *
 rw [Sch.enc_eq] at q1 q3 q4 q5 q6 ⊢
 generalize mapE Fld.enc q.fs = es at *
 generalize ba q.nm = qn at *
 generalize ba nm = s at *
 clear hq
 have kcA : AV.closedL [str qn, .isl 2 es] = true := by simp [AV.closedL, closed_v, kcl]
 have kcB : AV.closedL [AV.agg [str qn, .isl 2 es]] = true := by simp [AV.closedL, closed_agg, closed_v, kcl]
 refine wordsN ?_; unhygienic intros
 have n0 : bNot false = true := by simp only [ee]; rfl
 have n1 : bNot true = false := by simp only [ee]; rfl
 have t1 : ∀ x : Int, iEq x x = true := fun x => by simp only [ee]; simp
 cases fb with
 | false =>
  refine fn_body (fn := Tryd.f3) (n := 44) (ac := Trydc3) (rvs := [.t 4]) rfl (by decide) Trydp3 rfl rfl rfl ?_
  refine goA 60 ?_
  refine on_lend rfl rfl q1 rfl ⟨[.gone, .isl 2 ([AV.agg [AV.val (Value.string qn), AV.isl 2 es]])], ⟨trivial, ⟨_, rfl, (subL_closed _ kcB).symm⟩, trivial⟩, ⟨.refl _, trivial⟩⟩ ?_
  refine goB hX 0 (by conv => lhs; cbv; try simp only [n0, n1, t1]; cbv; try simp only [n0, n1, t1]; cbv; try simp only [n0, n1, t1]; cbv; try simp only [n0, n1, t1]; cbv) ?_
  refine goA 60 ?_
  refine oPA q2 ?_
  refine goA 60 ?_
  refine fn_ret rfl rfl (.val ?_)
  rfl
 | true =>
  refine fn_body (fn := Tryd.f3) (n := 44) (ac := Trydc3) (rvs := [.t 4]) rfl (by decide) Trydp3 rfl rfl rfl ?_
  refine goA 60 ?_
  refine on_lend rfl rfl q1 rfl ⟨[.gone, .isl 2 ([AV.agg [AV.val (Value.string qn), AV.isl 2 es]])], ⟨trivial, ⟨_, rfl, (subL_closed _ kcB).symm⟩, trivial⟩, ⟨.refl _, trivial⟩⟩ ?_
  refine goB hX 0 (by conv => lhs; cbv; try simp only [n0, n1, t1]; cbv; try simp only [n0, n1, t1]; cbv; try simp only [n0, n1, t1]; cbv; try simp only [n0, n1, t1]; cbv) ?_
  refine goA 60 ?_
  refine oPA q3 ?_
  refine goA 60 ?_
  refine oPA q4 ?_
  refine goA 60 ?_
  refine tr_drawB rfl (by conv => lhs; cbv) rfl ?_
  refine oPT q2 ?_
  refine tgA ?_
  refine tr_ung rfl ?_
  refine tgA ?_
  refine tr_ung rfl ?_
  refine oPT q5 ?_
  refine tr_ung rfl ?_
  refine tgA ?_
  refine tr_ung rfl ?_
  refine oPT q6 ?_
  refine tr_ung rfl ?_
  refine tgA ?_
  refine tgB hX (by conv => lhs; cbv; try simp only [n0, n1, t1]; cbv; try simp only [n0, n1, t1]; cbv; try simp only [n0, n1, t1]; cbv; try simp only [n0, n1, t1]; cbv) ?_
  refine tr_ung rfl ?_
  refine tgA ?_
  refine tr_ung rfl ?_
  refine tgA ?_
  refine tr_ung rfl ?_
  refine tgA ?_
  refine tgB hX (by conv => lhs; cbv; try simp only [n0, n1, t1]; cbv; try simp only [n0, n1, t1]; cbv; try simp only [n0, n1, t1]; cbv; try simp only [n0, n1, t1]; cbv) ?_
  refine tr_ung rfl ?_
  refine tgA ?_
  refine tr_ung rfl ?_
  refine tgA ?_
  refine tr_ung rfl ?_
  refine tgA ?_
  refine tr_nil ⟨rfl, by simp [LooksL, lookAll], ?_⟩
  refine goA 60 ?_
  refine fn_ret rfl rfl (.val ?_)
  exact congrArg Value.bool (by simp only [ee]; simp)
theorem P_lawFormats (l : List Sch) (a b : Sch) (hl : l.length < 1048577) (hs : ∀ q ∈ l, q.Short) (ha : a.Short) (hb : b.Short) : PCall EK 5 [.isl 2 (mapE Sch.enc l), a.enc, b.enc] (bool true) := by
 have q1 := (P_Few l (by omega) hs).toK
 have q0 := (P_Few [a, b] (by simp) (fun x hx => by simp at hx; rcases hx with rfl | rfl; exact ha; exact hb)).toK
 have q2 := P_awake.toK
 have q3 := (P_Format l (by omega) hs).toK
 have q4 := P_refFormat l (by omega) hs
 have q5 := (P_Compatible a b ha hb).toK
 have q6 := (P_refCompatible a b ha hb).toK
 have q7 := (P_EqualI ((cmpQ a b).getD []) (by have := cmpQ_len a b; have := hb.2.1; omega)).toK
 rw [mapE_eq Sch.enc [a, b], List.map_cons, List.map_cons, List.map_nil] at q0
 have kcl := Sch.closedI l
 have kca := Fld.closedI a.fs
 have kcb := Fld.closedI b.fs
 have kci := closedI_int ((cmpQ a b).getD [])
 generalize fewB l = fb at *
 generalize fewB [a, b] = fc at *
 generalize ba (if chkAll l ≠ 0 then [] else fmt l) = t at *
 generalize chkAll l = ck at *
 generalize mapE int ((cmpQ a b).getD []) = ei at *
 generalize (cmpQ a b).isSome = eo at *
 generalize cmpE a b = ec at *
 generalize mapE Sch.enc l = es at *
 rw [Sch.enc_eq, Sch.enc_eq] at q0 q5 q6 ⊢
 generalize mapE Fld.enc a.fs = fa at *
 generalize mapE Fld.enc b.fs = fbb at *
 generalize ba a.nm = an at *
 generalize ba b.nm = bn at *
 clear hl hs ha hb
 have kcA : AV.closedL [str an, .isl 2 fa] = true := by simp [AV.closedL, closed_v, kca]
 have kcB : AV.closedL [str bn, .isl 2 fbb] = true := by simp [AV.closedL, closed_v, kcb]
 have kcC : AV.closedL [AV.agg [str an, .isl 2 fa], AV.agg [str bn, .isl 2 fbb]] = true := by simp [AV.closedL, closed_agg, closed_v, kca, kcb]
 refine wordsN ?_; unhygienic intros
 have n0 : bNot false = true := by simp only [ee]; rfl
 have n1 : bNot true = false := by simp only [ee]; rfl
 have t1 : ∀ x : Int, iEq x x = true := fun x => by simp only [ee]; simp
 have t2 : ∀ x : ByteArray, sEq x x = true := fun x => by simp only [ee]; simp
 have t3 : ∀ x : Bool, bEq x x = true := fun x => by simp only [ee]; simp
 cases fb with
 | false =>
  refine fn_body (fn := Tryd.f5) (n := 78) (ac := Trydc5) (rvs := [.t 6]) rfl (by decide) Trydp5 rfl rfl rfl ?_
  refine goA 60 ?_
  refine oPA q1 ?_
  refine goB hX 0 (by conv => lhs; cbv; try simp only [n0, n1]; cbv; try simp only [n0, n1]; cbv; try simp only [n0, n1]; cbv; try simp only [n0, n1]; cbv) ?_
  refine goA 60 ?_
  refine on_gskip rfl rfl ?_
  refine goA 60 ?_
  refine oPA q2 ?_
  refine goA 60 ?_
  refine fn_ret rfl rfl (.val ?_)
  rfl
 | true =>
 cases fc with
 | false =>
  refine fn_body (fn := Tryd.f5) (n := 78) (ac := Trydc5) (rvs := [.t 6]) rfl (by decide) Trydp5 rfl rfl rfl ?_
  refine goA 60 ?_
  refine oPA q1 ?_
  refine goB hX 0 (by conv => lhs; cbv; try simp only [n0, n1]; cbv; try simp only [n0, n1]; cbv; try simp only [n0, n1]; cbv; try simp only [n0, n1]; cbv) ?_
  refine goA 60 ?_
  refine on_lend rfl rfl q0 rfl ⟨[.gone, .gone, .isl 2 ([AV.agg [AV.val (Value.string an), AV.isl 2 fa], AV.agg [AV.val (Value.string bn), AV.isl 2 fbb]])], ⟨trivial, trivial, ⟨_, rfl, (subL_closed _ kcC).symm⟩, trivial⟩, ⟨.refl _, trivial⟩⟩ ?_
  refine goB hX 0 (by conv => lhs; cbv; try simp only [n0, n1]; cbv; try simp only [n0, n1]; cbv; try simp only [n0, n1]; cbv; try simp only [n0, n1]; cbv) ?_
  refine on_cond rfl (fun c1 => ?_) (fun c1 => ?_)
  ·
   simp [ee] at c1
   refine goA 60 ?_
   refine oPA q2 ?_
   refine goA 60 ?_
   refine fn_ret rfl rfl (.val ?_)
   rfl
  ·
   simp [ee] at c1
 | true =>
  refine fn_body (fn := Tryd.f5) (n := 78) (ac := Trydc5) (rvs := [.t 6]) rfl (by decide) Trydp5 rfl rfl rfl ?_
  refine goA 60 ?_
  refine oPA q1 ?_
  refine goB hX 0 (by conv => lhs; cbv; try simp only [n0, n1, t1, t2, t3]; cbv; try simp only [n0, n1, t1, t2, t3]; cbv; try simp only [n0, n1, t1, t2, t3]; cbv; try simp only [n0, n1, t1, t2, t3]; cbv) ?_
  refine goA 60 ?_
  refine on_lend rfl rfl q0 rfl ⟨[.gone, .gone, .isl 2 ([AV.agg [AV.val (Value.string an), AV.isl 2 fa], AV.agg [AV.val (Value.string bn), AV.isl 2 fbb]])], ⟨trivial, trivial, ⟨_, rfl, (subL_closed _ kcC).symm⟩, trivial⟩, ⟨.refl _, trivial⟩⟩ ?_
  refine goB hX 0 (by conv => lhs; cbv; try simp only [n0, n1, t1, t2, t3]; cbv; try simp only [n0, n1, t1, t2, t3]; cbv; try simp only [n0, n1, t1, t2, t3]; cbv; try simp only [n0, n1, t1, t2, t3]; cbv) ?_
  refine on_cond rfl (fun c1 => ?_) (fun c1 => ?_)
  ·
   simp [ee] at c1
  ·
   simp [ee] at c1
   refine goA 60 ?_
   refine oPA q3 ?_
   refine goA 60 ?_
   refine oPA q4 ?_
   refine goA 60 ?_
   refine oPA q5 ?_
   refine goA 60 ?_
   refine oPA q6 ?_
   refine goA 60 ?_
   refine oPA q2 ?_
   refine goB hX 0 (by conv => lhs; cbv; try simp only [n0, n1, t1, t2, t3]; cbv; try simp only [n0, n1, t1, t2, t3]; cbv; try simp only [n0, n1, t1, t2, t3]; cbv; try simp only [n0, n1, t1, t2, t3]; cbv) ?_
   refine on_guard rfl rfl (fun c2 => ?_) (fun c2 => ?_)
   ·
    simp [ee] at c2
    refine goA 60 ?_
    refine oPG q7 ?_
    refine goA 60 ?_
    refine fn_ret rfl rfl (.val ?_)
    exact congrArg Value.bool (by simp only [ee]; simp)
   ·
    simp [ee] at c2
theorem P_lawKeeps (s : Bs) (hs : s.length < 1048577) : PCall EE 6 [str (ba s)] (bool true) := by
 have q2 := P_awake
 have q3 := P_Parse s (by omega)
 have hsz := ba_size s
 by_cases he : (prs s).2.2 = 0
 · obtain ⟨_, l, h2, h3⟩ := prs_ok he
   have hc := prs_wf h3
   obtain ⟨hl, hsh⟩ := chk_short hc
   have hfl := fmt_len hc
   rw [h2] at q3
   dsimp only at q3
   have q4 := P_Format l hl hsh
   have q5 := P_CheckAll l hl hsh
   rw [hc, if_neg (by decide)] at q4
   rw [hc] at q5
   have q6 := P_Parse (fmt l) (by omega)
   rw [prs_fmt hc] at q6
   dsimp only at q6
   have q7 := P_Same l hl hsh
   have kcl := Sch.closedI l
   generalize mapE Sch.enc l = es at *
   generalize ba (fmt l) = t at *
   generalize ba s = b at *
   clear hl hsh hc h3 h2 he
   refine wordsN ?_; unhygienic intros
   have hn : sLen b = (s.length : Int) := by simp only [ee]; omega
   have k3 : iNe 0 0 = false := by simp only [ee]; rfl
   have k5 : iAdd .i64 0 0 = 0 := by simp only [ee]; rfl
   have k6 : iEq 0 0 = true := by simp only [ee]; rfl
   have k7 : sEq t t = true := by simp only [ee]; simp
   by_cases h1 : 1000 < s.length
   · have k1 : iLt 1000 (sLen b) = true := by rw [hn]; simp only [ee]; simp; omega
     refine fn_body (fn := Tryd.f6) (n := 85) (ac := Trydc6) (rvs := [.t 2]) rfl (by decide) Trydp6 rfl rfl rfl ?_
     refine goB hX 0 (by conv => lhs; cbv; try simp only [k1]; cbv; try simp only [k1]; cbv; try simp only [k1]; cbv; try simp only [k1]; cbv) ?_
     refine goA 60 ?_
     refine oPA q2 ?_
     refine goA 60 ?_
     refine fn_ret rfl rfl (.val ?_)
     rfl
   · have k1 : iLt 1000 (sLen b) = false := by rw [hn]; simp only [ee]; simp; omega
     refine fn_body (fn := Tryd.f6) (n := 85) (ac := Trydc6) (rvs := [.t 2]) rfl (by decide) Trydp6 rfl rfl rfl ?_
     refine goB hX 0 (by conv => lhs; cbv; try simp only [k1, k3, k5, k6, k7]; cbv; try simp only [k1, k3, k5, k6, k7]; cbv; try simp only [k1, k3, k5, k6, k7]; cbv; try simp only [k1, k3, k5, k6, k7]; cbv) ?_
     refine goA 60 ?_
     refine oPA q3 ?_
     refine goB hX 0 (by conv => lhs; cbv; try simp only [k1, k3, k5, k6, k7]; cbv; try simp only [k1, k3, k5, k6, k7]; cbv; try simp only [k1, k3, k5, k6, k7]; cbv; try simp only [k1, k3, k5, k6, k7]; cbv) ?_
     refine goA 60 ?_
     refine oPA q4 ?_
     refine goA 60 ?_
     refine oPA q6 ?_
     refine goA 60 ?_
     refine oPA q4 ?_
     refine goA 60 ?_
     refine oPA q2 ?_
     refine goB hX 0 (by conv => lhs; cbv; try simp only [k1, k3, k5, k6, k7]; cbv; try simp only [k1, k3, k5, k6, k7]; cbv; try simp only [k1, k3, k5, k6, k7]; cbv; try simp only [k1, k3, k5, k6, k7]; cbv) ?_
     refine on_guard rfl rfl (fun c1 => ?_) (fun c1 => ?_)
     ·
      simp [ee] at c1
      refine goA 60 ?_
      refine oPG q5 ?_
      refine goB hX 0 (by conv => lhs; cbv; try simp only [k1, k3, k5, k6, k7]; cbv; try simp only [k1, k3, k5, k6, k7]; cbv; try simp only [k1, k3, k5, k6, k7]; cbv; try simp only [k1, k3, k5, k6, k7]; cbv) ?_
      refine on_guard rfl rfl (fun c2 => ?_) (fun c2 => ?_)
      ·
       simp [ee] at c2
       refine goA 60 ?_
       refine oPG q7 ?_
       refine goA 60 ?_
       refine fn_ret rfl rfl (.val ?_)
       exact congrArg Value.bool (by simp only [ee]; simp)
      ·
       simp [ee] at c2
     ·
      simp [ee] at c1
 · obtain ⟨h2, h3, h4⟩ := prs_bad he
   rw [h2, mapE_nil] at q3
   generalize (prs s).2.1 = A at *
   generalize (prs s).2.2 = E at *
   generalize ba s = b at *
   clear h2
   refine wordsN ?_; unhygienic intros
   have hn : sLen b = (s.length : Int) := by simp only [ee]; omega
   have k3 : iNe E 0 = true := by simp only [ee]; simpa using he
   have k4 : lenA [] = 0 := by simp only [ee]; rfl
   have k6 : iEq 0 0 = true := by simp only [ee]; rfl
   have k7 : iLe 0 A = true := by simp only [ee]; simpa using h3
   have k8 : iLe A (sLen b) = true := by rw [hn]; simp only [ee]; simpa using h4
   by_cases h1 : 1000 < s.length
   · have k1 : iLt 1000 (sLen b) = true := by rw [hn]; simp only [ee]; simp; omega
     refine fn_body (fn := Tryd.f6) (n := 85) (ac := Trydc6) (rvs := [.t 2]) rfl (by decide) Trydp6 rfl rfl rfl ?_
     refine goB hX 0 (by conv => lhs; cbv; try simp only [k1]; cbv; try simp only [k1]; cbv; try simp only [k1]; cbv; try simp only [k1]; cbv) ?_
     refine goA 60 ?_
     refine oPA q2 ?_
     refine goA 60 ?_
     refine fn_ret rfl rfl (.val ?_)
     rfl
   · have k1 : iLt 1000 (sLen b) = false := by rw [hn]; simp only [ee]; simp; omega
     refine fn_body (fn := Tryd.f6) (n := 85) (ac := Trydc6) (rvs := [.t 2]) rfl (by decide) Trydp6 rfl rfl rfl ?_
     refine goB hX 0 (by conv => lhs; cbv; try simp only [k1, k3, k4, k6, k7, k8]; cbv; try simp only [k1, k3, k4, k6, k7, k8]; cbv; try simp only [k1, k3, k4, k6, k7, k8]; cbv; try simp only [k1, k3, k4, k6, k7, k8]; cbv) ?_
     refine goA 60 ?_
     refine oPA q3 ?_
     refine goB hX 0 (by conv => lhs; cbv; try simp only [k1, k3, k4, k6, k7, k8]; cbv; try simp only [k1, k3, k4, k6, k7, k8]; cbv; try simp only [k1, k3, k4, k6, k7, k8]; cbv; try simp only [k1, k3, k4, k6, k7, k8]; cbv) ?_
     refine goB hX 1 (by conv => lhs; cbv; try simp only [k1, k3, k4, k6, k7, k8]; cbv; try simp only [k1, k3, k4, k6, k7, k8]; cbv; try simp only [k1, k3, k4, k6, k7, k8]; cbv; try simp only [k1, k3, k4, k6, k7, k8]; cbv) ?_
     refine on_guard rfl rfl (fun c1 => ?_) (fun c1 => ?_)
     ·
      simp [ee] at c1
      refine oPG q2 ?_
      refine goA 60 ?_
      refine fn_ret rfl rfl (.val ?_)
      rfl
     ·
      simp [ee] at c1
theorem P_lawNames (l : List Sch) (nm : Bs) (hl : l.length < 1048577) (hs : ∀ q ∈ l, q.Short) : PCall EE 8 [.isl 2 (mapE Sch.enc l), str (ba nm)] (bool true) := by
 have q1 := P_Few l (by omega) hs
 have q2 := P_awake
 have q3 := fun x => P_Find l x (by omega) hs
 have q5 := P_CheckAll l (by omega) hs
 have kcl := Sch.closedI l
 have hhit := fun (h : chkAll l = 0) (d r : List Sch) (q : Sch) (e : l = d ++ q :: r) => fnd_hit h e
 have hsome := fun (h : chkAll l = 0) => fnd_some (nm := nm) h
 have hz := fun (h : chkAll l = 0) => ((chkAll_zero l).1 h).2.1
 have heq : ∀ f : Sch, ((ba f.nm).toList == (ba nm).toList) = decide (f.nm = nm) := fun f => ba_eqB _ _
 generalize fewB l = fb at *
 generalize chkAll l = ck at *
 generalize hsn : ba nm = s at *
 refine wordsN ?_; unhygienic intros
 generalize hes : mapE Sch.enc l = es at *
 have hel : es.length = l.length := by rw [← hes, mapE_len]
 have n0 : bNot false = true := by simp only [ee]; rfl
 have n1 : bNot true = false := by simp only [ee]; rfl
 cases fb with
 | false =>
  refine fn_body (fn := Tryd.f8) (n := 96) (ac := Trydc8) (rvs := [.t 4]) rfl (by decide) Trydp8 rfl rfl rfl ?_
  refine goA 60 ?_
  refine oPA q1 ?_
  refine goB hX 0 (by conv => lhs; cbv; try simp only [n0, n1]; cbv; try simp only [n0, n1]; cbv; try simp only [n0, n1]; cbv; try simp only [n0, n1]; cbv) ?_
  refine goA 60 ?_
  refine on_gskip rfl rfl ?_
  refine goA 60 ?_
  refine oPA q2 ?_
  refine goA 60 ?_
  refine fn_ret rfl rfl (.val ?_)
  rfl
 | true =>
 by_cases hc0 : ck ≠ 0
 · have k0 : iNe ck 0 = true := by simp only [ee]; simpa using hc0
   refine fn_body (fn := Tryd.f8) (n := 96) (ac := Trydc8) (rvs := [.t 4]) rfl (by decide) Trydp8 rfl rfl rfl ?_
   refine goA 60 ?_
   refine oPA q1 ?_
   refine goB hX 0 (by conv => lhs; cbv; try simp only [n0, n1, k0]; cbv; try simp only [n0, n1, k0]; cbv; try simp only [n0, n1, k0]; cbv; try simp only [n0, n1, k0]; cbv) ?_
   refine goA 60 ?_
   refine oPG q5 ?_
   refine goB hX 0 (by conv => lhs; cbv; try simp only [n0, n1, k0]; cbv; try simp only [n0, n1, k0]; cbv; try simp only [n0, n1, k0]; cbv; try simp only [n0, n1, k0]; cbv) ?_
   refine on_cond rfl (fun c1 => ?_) (fun c1 => ?_)
   ·
    simp [ee] at c1
    refine goA 60 ?_
    refine oPA q2 ?_
    refine goA 60 ?_
    refine fn_ret rfl rfl (.val ?_)
    rfl
   ·
    simp [ee] at c1
 have k0 : iNe ck 0 = false := by simp only [ee]; simpa using hc0
 have hc1 : ck = 0 := by simpa using hc0
 have hhit := hhit hc1
 have hsome := hsome hc1
 have hz := hz hc1
 refine fn_body (fn := Tryd.f8) (n := 96) (ac := Trydc8) (rvs := [.t 4]) rfl (by decide) Trydp8 rfl rfl rfl ?_
 refine goA 60 ?_
 refine oPA q1 ?_
 refine goB hX 0 (by conv => lhs; cbv; try simp only [n0, n1, k0]; cbv; try simp only [n0, n1, k0]; cbv; try simp only [n0, n1, k0]; cbv; try simp only [n0, n1, k0]; cbv) ?_
 refine goA 60 ?_
 refine oPG q5 ?_
 refine goB hX 0 (by conv => lhs; cbv; try simp only [n0, n1, k0]; cbv; try simp only [n0, n1, k0]; cbv; try simp only [n0, n1, k0]; cbv; try simp only [n0, n1, k0]; cbv) ?_
 refine on_cond rfl (fun c1 => ?_) (fun c1 => ?_)
 ·
  simp [ee] at c1
 simp [ee] at c1
 clear c1
 refine goA 60 ?_
 refine on_loopP (ι := List Sch × List Sch × Int × Bool) (fun p => ([(27, int p.2.2.1), (26, int (lenA es)), (25, .isl 2 es), (5, bool p.2.2.2), (1, str s), (0, .isl 2 es)], [])) (fun p => l = p.1 ++ p.2.1 ∧ p.2.2.1 = p.1.length ∧ p.2.2.2 = decide (nm ∈ p.1.map Sch.nm)) (fun p => p.2.1.length) ([], l, 0, false) ⟨rfl, rfl, by simp⟩ ?_ ?_
 · exact (ent_sub [] [] trivial trivial ⟨.refl _, .refl _, .cl kcl, .refl _, .refl _, .cl kcl, trivial⟩)
 rintro ⟨d, r, i, b⟩ ⟨g1, gi, gb⟩
 dsimp only at g1 gi gb ⊢
 cases r with
 | nil =>
  have L1 := len_split g1
  try simp only [List.length] at L1
  have hc : iLt i (lenA es) = false := lt_f e_iLt e_lenA (by omega)
  rw [List.append_nil] at g1
  have q4 := q3 nm
  rw [hsn, hsome] at q4
  rw [← g1] at gb
  generalize fndI l nm = fi at *
  clear q3 q5 hhit hsome hz heq hs
  by_cases hm : nm ∈ l.map Sch.nm
  · rw [decide_eq_true hm] at gb
    rw [if_pos hm] at q4
    subst gb
    have k1 : iEq 0 0 = true := by simp only [ee]; rfl
    have k2 : iEq 0 6 = false := by simp only [ee]; rfl
    refine goB hX 0 (by conv => lhs; cbv; try simp only [hc, k1, k2]; cbv; try simp only [hc, k1, k2]; cbv; try simp only [hc, k1, k2]; cbv; try simp only [hc, k1, k2]; cbv) ?_
    refine goA 60 ?_
    refine loopP_exit ?_
    refine goA 60 ?_
    refine oPA q4 ?_
    refine goA 60 ?_
    refine oPA q2 ?_
    refine goA 60 ?_
    refine fn_ret rfl rfl (.val ?_)
    exact congrArg Value.bool (by simp only [ee]; simp)
  · rw [decide_eq_false hm] at gb
    rw [if_neg hm] at q4
    subst gb
    have k1 : iEq 6 0 = false := by simp only [ee]; rfl
    have k2 : iEq 6 6 = true := by simp only [ee]; rfl
    refine goB hX 0 (by conv => lhs; cbv; try simp only [hc, k1, k2]; cbv; try simp only [hc, k1, k2]; cbv; try simp only [hc, k1, k2]; cbv; try simp only [hc, k1, k2]; cbv) ?_
    refine goA 60 ?_
    refine loopP_exit ?_
    refine goA 60 ?_
    refine oPA q4 ?_
    refine goA 60 ?_
    refine oPA q2 ?_
    refine goA 60 ?_
    refine fn_ret rfl rfl (.val ?_)
    exact congrArg Value.bool (by simp only [ee]; simp)
 | cons q r =>
  have L1 := len_split g1
  try simp only [List.length] at L1
  have hc : iLt i (lenA es) = true := lt_t e_iLt e_lenA (by omega)
  have hat := el_at e_atA hes g1 gi
  have hi2 : iAdd .i64 i 1 = ((d ++ [q]).length : Int) := by rw [List.length_append]; exact inc_w e_iAdd gi (by omega)
  have q4 := q3 q.nm
  obtain ⟨h1, h2⟩ := hhit d r q g1
  rw [h1, h2, ← gi] at q4
  have hq0 := hz q (by rw [g1]; simp)
  have hqs := chk1_short hq0
  have q6 := fun x => P_Index q x hqs
  have hih := fun (d2 r2 : List Fld) (f : Fld) (e : q.fs = d2 ++ f :: r2) => idx_hit hq0 e
  have kq : sEq (ba q.nm) s = decide (q.nm = nm) := by simp only [ee]; exact heq q
  have hb2 : (b || decide (q.nm = nm)) = decide (nm ∈ (d ++ [q]).map Sch.nm) := by
   rw [gb, Bool.eq_iff_iff, Bool.or_eq_true, decide_eq_true_eq, decide_eq_true_eq, decide_eq_true_eq, List.map_append, List.mem_append]
   constructor
   · rintro (h | h)
     · exact .inl h
     · exact .inr (List.mem_map.2 ⟨q, by simp, h⟩)
   · rintro (h | h)
     · exact .inl h
     · simp only [List.map_cons, List.map_nil, List.mem_singleton] at h
       exact .inr h.symm
  rw [Sch.enc_eq] at hat
  simp only [Sch.enc_eq] at q6
  have kcf := Fld.closedI q.fs
  have hql := hqs.2.1
  generalize ba q.nm = qn at *
  generalize hfe : mapE Fld.enc q.fs = fe at *
  have hfl : fe.length = q.fs.length := by rw [← hfe, mapE_len]
  have kcA : AV.closedL [str qn, .isl 2 fe] = true := by simp [AV.closedL, closed_v, kcf]
  generalize decide (q.nm = nm) = bq at *
  have k3 : iNe 0 0 = false := by simp only [ee]; rfl
  have kbo : bOr false bq = bq := by simp only [ee]; rfl
  have t4 : ∀ x : Int, iNe x x = false := fun x => by simp only [ee]; simp
  clear q3 q5 hhit hsome hz heq hs
  cases b with
  | true =>
   rw [Bool.true_or] at hb2
   refine goB hX 0 (by conv => lhs; cbv; try simp only [hc, hat, k3, t4, kq]; cbv; try simp only [hc, hat, k3, t4, kq]; cbv; try simp only [hc, hat, k3, t4, kq]; cbv; try simp only [hc, hat, k3, t4, kq]; cbv) ?_
   refine goB hX 1 (by conv => lhs; cbv; try simp only [hc, hat, k3, t4, kq]; cbv; try simp only [hc, hat, k3, t4, kq]; cbv; try simp only [hc, hat, k3, t4, kq]; cbv; try simp only [hc, hat, k3, t4, kq]; cbv) ?_
   refine oPA q4 ?_
   refine goB hX 0 (by conv => lhs; cbv; try simp only [hc, hat, k3, t4, kq]; cbv; try simp only [hc, hat, k3, t4, kq]; cbv; try simp only [hc, hat, k3, t4, kq]; cbv; try simp only [hc, hat, k3, t4, kq]; cbv) ?_
   refine on_cond rfl (fun c1 => ?_) (fun c1 => ?_)
   ·
    simp [ee] at c1
   simp [ee] at c1
   clear c1
   refine goA 60 ?_
   refine on_loopP (ι := List Fld × List Fld × Int) (fun p => ([(56, int p.2.2), (55, int (lenA fe)), (54, .isl 2 fe), (27, int i), (26, int (lenA es)), (25, .isl 2 es), (5, bool true), (1, str s), (0, .isl 2 es), (7, .iptr [str qn, .isl 2 fe])], [])) (fun p => q.fs = p.1 ++ p.2.1 ∧ p.2.2 = p.1.length) (fun p => p.2.1.length) ([], q.fs, 0) ⟨rfl, rfl⟩ ?_ ?_
   · exact (ent_sub [.icells ([str qn, AV.isl 2 fe])] [] ⟨⟨_, rfl, (subL_closed _ kcA).symm⟩, trivial⟩ trivial ⟨.refl _, .refl _, .cl kcf, .refl _, .refl _, .cl kcl, .of (by simp only [ee]; rfl), .refl _, .cl kcl, .refl _, trivial⟩)
   rintro ⟨d2, r2, k⟩ ⟨f1, fi⟩
   dsimp only at f1 fi ⊢
   cases r2 with
   | nil =>
    have L2 := len_split f1
    try simp only [List.length] at L2
    have hc2 : iLt k (lenA fe) = false := lt_f e_iLt e_lenA (by omega)
    refine goB hX 0 (by conv => lhs; cbv; try simp only [hc2]; cbv; try simp only [hc2]; cbv; try simp only [hc2]; cbv; try simp only [hc2]; cbv) ?_
    refine goA 60 ?_
    refine loopP_exit ?_
    refine goA 60 ?_
    refine loopP_next (d ++ [q], r, iAdd .i64 i 1, true) ⟨by simp [g1], hi2, hb2⟩ (by simp) (ent_sub [] [] trivial trivial ⟨.refl _, .refl _, .cl kcl, .refl _, .refl _, .cl kcl, trivial⟩)
   | cons f r2 =>
    have L2 := len_split f1
    try simp only [List.length] at L2
    have hc2 : iLt k (lenA fe) = true := lt_t e_iLt e_lenA (by omega)
    have hat2 := el_at e_atA hfe f1 fi
    rw [Fld.enc_eq] at hat2
    have hk2 : iAdd .i64 k 1 = ((d2 ++ [f]).length : Int) := by rw [List.length_append]; exact inc_w e_iAdd fi (by omega)
    have q7 := q6 f.nm
    obtain ⟨h3, h4⟩ := hih d2 r2 f f1
    rw [h3, h4, ← fi] at q7
    generalize ba f.nm = fs at *
    generalize f.kd = fk at *
    clear q6 q4 hih
    refine goB hX 0 (by conv => lhs; cbv; try simp only [hc2, hat2, k3, t4]; cbv; try simp only [hc2, hat2, k3, t4]; cbv; try simp only [hc2, hat2, k3, t4]; cbv; try simp only [hc2, hat2, k3, t4]; cbv) ?_
    refine goB hX 1 (by conv => lhs; cbv; try simp only [hc2, hat2, k3, t4]; cbv; try simp only [hc2, hat2, k3, t4]; cbv; try simp only [hc2, hat2, k3, t4]; cbv; try simp only [hc2, hat2, k3, t4]; cbv) ?_
    refine oPA q7 ?_
    refine goB hX 0 (by conv => lhs; cbv; try simp only [hc2, hat2, k3, t4]; cbv; try simp only [hc2, hat2, k3, t4]; cbv; try simp only [hc2, hat2, k3, t4]; cbv; try simp only [hc2, hat2, k3, t4]; cbv) ?_
    refine on_cond rfl (fun c1 => ?_) (fun c1 => ?_)
    ·
     simp [ee] at c1
    ·
     simp [ee] at c1
     refine goA 60 ?_
     refine loopP_next (d2 ++ [f], r2, iAdd .i64 k 1) ⟨by simp [f1], hk2⟩ (by simp) (ent_sub [.gone] [] ⟨trivial, trivial⟩ trivial ⟨.refl _, .refl _, .cl kcf, .refl _, .refl _, .cl kcl, .refl _, .refl _, .cl kcl, .cl kcA, trivial⟩)
  | false =>
   rw [Bool.false_or] at hb2
   refine goB hX 0 (by conv => lhs; cbv; try simp only [hc, hat, k3, t4, kq]; cbv; try simp only [hc, hat, k3, t4, kq]; cbv; try simp only [hc, hat, k3, t4, kq]; cbv; try simp only [hc, hat, k3, t4, kq]; cbv) ?_
   refine goB hX 1 (by conv => lhs; cbv; try simp only [hc, hat, k3, t4, kq]; cbv; try simp only [hc, hat, k3, t4, kq]; cbv; try simp only [hc, hat, k3, t4, kq]; cbv; try simp only [hc, hat, k3, t4, kq]; cbv) ?_
   refine oPA q4 ?_
   refine goB hX 0 (by conv => lhs; cbv; try simp only [hc, hat, k3, t4, kq]; cbv; try simp only [hc, hat, k3, t4, kq]; cbv; try simp only [hc, hat, k3, t4, kq]; cbv; try simp only [hc, hat, k3, t4, kq]; cbv) ?_
   refine on_cond rfl (fun c1 => ?_) (fun c1 => ?_)
   ·
    simp [ee] at c1
   simp [ee] at c1
   clear c1
   refine goA 60 ?_
   refine on_loopP (ι := List Fld × List Fld × Int) (fun p => ([(56, int p.2.2), (55, int (lenA fe)), (54, .isl 2 fe), (27, int i), (26, int (lenA es)), (25, .isl 2 es), (5, bool bq), (1, str s), (0, .isl 2 es), (7, .iptr [str qn, .isl 2 fe])], [])) (fun p => q.fs = p.1 ++ p.2.1 ∧ p.2.2 = p.1.length) (fun p => p.2.1.length) ([], q.fs, 0) ⟨rfl, rfl⟩ ?_ ?_
   · exact (ent_sub [.icells ([str qn, AV.isl 2 fe])] [] ⟨⟨_, rfl, (subL_closed _ kcA).symm⟩, trivial⟩ trivial ⟨.refl _, .refl _, .cl kcf, .refl _, .refl _, .cl kcl, .of (by simp only [kq, kbo]; rfl), .refl _, .cl kcl, .refl _, trivial⟩)
   rintro ⟨d2, r2, k⟩ ⟨f1, fi⟩
   dsimp only at f1 fi ⊢
   cases r2 with
   | nil =>
    have L2 := len_split f1
    try simp only [List.length] at L2
    have hc2 : iLt k (lenA fe) = false := lt_f e_iLt e_lenA (by omega)
    refine goB hX 0 (by conv => lhs; cbv; try simp only [hc2]; cbv; try simp only [hc2]; cbv; try simp only [hc2]; cbv; try simp only [hc2]; cbv) ?_
    refine goA 60 ?_
    refine loopP_exit ?_
    refine goA 60 ?_
    refine loopP_next (d ++ [q], r, iAdd .i64 i 1, bq) ⟨by simp [g1], hi2, hb2⟩ (by simp) (ent_sub [] [] trivial trivial ⟨.refl _, .refl _, .cl kcl, .refl _, .refl _, .cl kcl, trivial⟩)
   | cons f r2 =>
    have L2 := len_split f1
    try simp only [List.length] at L2
    have hc2 : iLt k (lenA fe) = true := lt_t e_iLt e_lenA (by omega)
    have hat2 := el_at e_atA hfe f1 fi
    rw [Fld.enc_eq] at hat2
    have hk2 : iAdd .i64 k 1 = ((d2 ++ [f]).length : Int) := by rw [List.length_append]; exact inc_w e_iAdd fi (by omega)
    have q7 := q6 f.nm
    obtain ⟨h3, h4⟩ := hih d2 r2 f f1
    rw [h3, h4, ← fi] at q7
    generalize ba f.nm = fs at *
    generalize f.kd = fk at *
    clear q6 q4 hih
    refine goB hX 0 (by conv => lhs; cbv; try simp only [hc2, hat2, k3, t4]; cbv; try simp only [hc2, hat2, k3, t4]; cbv; try simp only [hc2, hat2, k3, t4]; cbv; try simp only [hc2, hat2, k3, t4]; cbv) ?_
    refine goB hX 1 (by conv => lhs; cbv; try simp only [hc2, hat2, k3, t4]; cbv; try simp only [hc2, hat2, k3, t4]; cbv; try simp only [hc2, hat2, k3, t4]; cbv; try simp only [hc2, hat2, k3, t4]; cbv) ?_
    refine oPA q7 ?_
    refine goB hX 0 (by conv => lhs; cbv; try simp only [hc2, hat2, k3, t4]; cbv; try simp only [hc2, hat2, k3, t4]; cbv; try simp only [hc2, hat2, k3, t4]; cbv; try simp only [hc2, hat2, k3, t4]; cbv) ?_
    refine on_cond rfl (fun c1 => ?_) (fun c1 => ?_)
    ·
     simp [ee] at c1
    ·
     simp [ee] at c1
     refine goA 60 ?_
     refine loopP_next (d2 ++ [f], r2, iAdd .i64 k 1) ⟨by simp [f1], hk2⟩ (by simp) (ent_sub [.gone] [] ⟨trivial, trivial⟩ trivial ⟨.refl _, .refl _, .cl kcf, .refl _, .refl _, .cl kcl, .refl _, .refl _, .cl kcl, .cl kcA, trivial⟩)
end Go.Am
end
