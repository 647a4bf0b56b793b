/- Contracts of the program's functions, for every argument that meets the conditions that each theorem names. -/
import Derived.Test.YthhgndcnfdaekaaCt2
import Derived.Test.YthhgndcnfdaekaaAm5
import Derived.Test.YthhgndcnfdaekaaCt1
section
set_option linter.unusedVariables false
set_option linter.unusedSimpArgs false
set_option maxRecDepth 20000
namespace Go.Am
open Go.Proofs

theorem P25 (s : Snk) (e : Int) (hf : s.Fine) (hc : countF s < 1152921504606846976) : PCall EE 25 [s.enc, int e] (.tup [(commitF s e).1.enc, int (commitF s e).2]) := by
  have P13c := P13 s hf hc
  have hlen := fun h : checkF s = 0 => (check_ok h).2.2.1
  have hcount := fun h : checkF s = 0 => (check_ok h).2.2.2.2.2
  have hcl := Snk.closed s
  have hcom := closedC s.com
  have hadd : commitF s e = commitF s e := rfl
  unfold commitF at hadd ⊢
  clear hadd
  generalize hck : checkF s = ck at P13c hlen hcount ⊢
  have henc : s.enc = .agg [int s.epoch, .isl 3 (mapE Chg.enc s.com), .isl 2 (mapE Bat.enc s.pend)] := rfl
  have hres : (⟨e, s.com ++ pendF (upto e s.pend), beyond e s.pend⟩ : Snk).enc = .agg [int e, .isl 3 (mapE Chg.enc (s.com ++ pendF (upto e s.pend))), .isl 2 (mapE Bat.enc (beyond e s.pend))] := rfl
  refine words fun iLt iLe iEq iNe iAdd iSub iMul iQuo iRem iShr iNeg iCvt iMax iMin bNot bEq bNe bAnd bOr sEq sNe sLen sCat sCut sAt lenA lenN iOf natOf atA atN cutA partA dropA catA setA repA putA idxN addN subN minN lenCut hX e_iLt e_iLe e_iEq e_iNe e_iAdd e_iSub e_iMul e_iQuo e_iRem e_iShr e_iNeg e_iCvt e_iMax e_iMin e_bNot e_bEq e_bNe e_bAnd e_bOr e_sEq e_sNe e_sLen e_sCat e_sCut e_sAt e_lenA e_lenN e_iOf e_natOf e_atA e_atN e_cutA e_partA e_dropA e_catA e_setA e_repA e_putA e_idxN e_addN e_subN e_minN e_lenCut ee => ?_
  rw [henc] at P13c hcl ⊢
  generalize hec : mapE Chg.enc s.com = ec at P13c hcl henc hcom ⊢
  generalize hep : mapE Bat.enc s.pend = ep at P13c hcl henc ⊢
  have hpl : ep.length = s.pend.length := by rw [← hep, mapE_len]
  have hcpe : (AV.isl 2 ep).closed = true := by rw [← hep]; exact closedB _
  generalize hsp : s.epoch = se at *
  refine fn_body (fn := Try.f25) (n := 67) (ac := Tryc25) (rvs := [.cell 4 3 true, .t 5]) rfl (by decide) Tryp25 rfl rfl rfl ?_
  refine go rfl hX 0 (by conv => lhs; cbv) ?_ ?_
  · first | exact trivial | (simp only [Cd.ok, ee]; and_intros <;> first | omega | rfl | (simp <;> omega))
  refine on_pcall rfl rfl rfl P13c (closed1 hcl) ?_
  refine go rfl hX 0 (by conv => lhs; cbv) ?_ ?_
  · first | exact trivial | (simp only [Cd.ok, ee]; and_intros <;> first | omega | rfl | (simp <;> omega))
  refine on_cond rfl (fun h1 => ?_) (fun h1 => ?_)
  · simp [ee, decide_eq_true_eq, decide_eq_false_iff_not, Bool.and_eq_true, Bool.or_eq_true, Bool.not_eq_true', Bool.not_eq_false', Bool.and_eq_false_iff, Bool.or_eq_false_iff, bne_iff_ne, beq_iff_eq, beq_eq_false_iff_ne, bne_eq_false_iff_eq, ne_eq, Int.not_lt, Int.not_le, Decidable.not_not] at h1
    rw [if_pos h1]
    refine go rfl hX 0 (by conv => lhs; cbv) ?_ ?_
    · first | exact trivial | (simp only [Cd.ok, ee]; and_intros <;> first | omega | rfl | (simp <;> omega))
    exact fn_ret rfl rfl fz0
  simp [ee, decide_eq_true_eq, decide_eq_false_iff_not, Bool.and_eq_true, Bool.or_eq_true, Bool.not_eq_true', Bool.not_eq_false', Bool.and_eq_false_iff, Bool.or_eq_false_iff, bne_iff_ne, beq_iff_eq, beq_eq_false_iff_ne, bne_eq_false_iff_eq, ne_eq, Int.not_lt, Int.not_le, Decidable.not_not] at h1
  subst h1
  rw [if_neg (by simp)]
  have hlen := hlen rfl
  have hcount := hcount rfl
  unfold countF at hcount
  refine go rfl hX 0 (by conv => lhs; cbv) ?_ ?_
  · first | exact trivial | (simp only [Cd.ok, ee]; and_intros <;> first | omega | rfl | (simp <;> omega))
  refine on_cond rfl (fun h2 => ?_) (fun h2 => ?_)
  · simp [ee, decide_eq_true_eq, decide_eq_false_iff_not, Bool.and_eq_true, Bool.or_eq_true, Bool.not_eq_true', Bool.not_eq_false', Bool.and_eq_false_iff, Bool.or_eq_false_iff, bne_iff_ne, beq_iff_eq, beq_eq_false_iff_ne, bne_eq_false_iff_eq, ne_eq, Int.not_lt, Int.not_le, Decidable.not_not] at h2
    rw [if_pos (by omega)]
    refine go rfl hX 0 (by conv => lhs; cbv) ?_ ?_
    · first | exact trivial | (simp only [Cd.ok, ee]; and_intros <;> first | omega | rfl | (simp <;> omega))
    exact fn_ret rfl rfl fz0
  simp [ee, decide_eq_true_eq, decide_eq_false_iff_not, Bool.and_eq_true, Bool.or_eq_true, Bool.not_eq_true', Bool.not_eq_false', Bool.and_eq_false_iff, Bool.or_eq_false_iff, bne_iff_ne, beq_iff_eq, beq_eq_false_iff_ne, bne_eq_false_iff_eq, ne_eq, Int.not_lt, Int.not_le, Decidable.not_not] at h2
  rw [if_neg (by omega)]
  refine go rfl hX 0 (by conv => lhs; cbv) ?_ ?_
  · first | exact trivial | (simp only [Cd.ok, ee]; and_intros <;> first | omega | rfl | (simp <;> omega))
  refine on_cond rfl (fun h4 => ?_) (fun h4 => ?_)
  · simp [ee, decide_eq_true_eq, decide_eq_false_iff_not, Bool.and_eq_true, Bool.or_eq_true, Bool.not_eq_true', Bool.not_eq_false', Bool.and_eq_false_iff, Bool.or_eq_false_iff, bne_iff_ne, beq_iff_eq, beq_eq_false_iff_ne, bne_eq_false_iff_eq, ne_eq, Int.not_lt, Int.not_le, Decidable.not_not] at h4
    rw [if_pos h4]
    refine go rfl hX 0 (by conv => lhs; cbv) ?_ ?_
    · first | exact trivial | (simp only [Cd.ok, ee]; and_intros <;> first | omega | rfl | (simp <;> omega))
    refine fn_ret rfl rfl (.none ?_)
    rw [henc]
    exact .cl (by show AV.closedL [.agg [int se, .isl 3 ec, .isl 2 ep], int 0] = true; exact closed2 hcl rfl)
  simp [ee, decide_eq_true_eq, decide_eq_false_iff_not, Bool.and_eq_true, Bool.or_eq_true, Bool.not_eq_true', Bool.not_eq_false', Bool.and_eq_false_iff, Bool.or_eq_false_iff, bne_iff_ne, beq_iff_eq, beq_eq_false_iff_ne, bne_eq_false_iff_eq, ne_eq, Int.not_lt, Int.not_le, Decidable.not_not] at h4
  rw [if_neg (by omega)]
  refine go rfl hX 0 (by conv => lhs; cbv) ?_ ?_
  · first | exact trivial | (simp only [Cd.ok, ee]; and_intros <;> first | omega | rfl | (simp <;> omega))
  refine on_loopP (ι := List Bat × List Bat × Int × Nat × List AV × List AV) (fun p => ([(8, int p.2.2.1), (1, int e), (2, .ptr 0 0), (4, .ptr 1 0), (7, .ptr 2 0)], [.cells [int se, .isl 3 ec, .isl 2 ep], .cells [int 0, .val (.slice none 0 0), .val (.slice none 0 0)], .cells [int e, .isl 3 p.2.2.2.2.2, .sl 3 2 0 p.2.2.2.1], .arr 2 p.2.2.2.2.1]))
    (fun p => s.pend = p.1 ++ p.2.1 ∧ p.2.2.1 = p.1.length ∧ p.2.2.2.1 = (beyond e p.1).length ∧ p.2.2.2.2.1 = mapE Bat.enc (beyond e p.1) ∧ p.2.2.2.2.2 = mapE Chg.enc (s.com ++ pendF (upto e p.1))) (fun p => p.2.1.length) ([], s.pend, 0, 0, [], ec) ⟨rfl, rfl, rfl, by simp [mapE_eq, beyond], by simp [upto, pendF, hec]⟩
    (ent_sub [.to 0, .to 1, .to 2] [some 0, some 1, some 2, none] ⟨⟨by simp, rfl⟩, ⟨by simp, rfl⟩, ⟨by simp, rfl⟩, trivial⟩
      ⟨osrc_cells (b := 0) rfl rfl rfl ⟨.refl _, .cl hcom, .cl hcpe, trivial⟩, osrc_cells (b := 1) rfl rfl rfl ⟨.refl _, .refl _, .refl _, trivial⟩, osrc_cells (b := 2) rfl rfl rfl ⟨.refl _, .cl hcom, .nilS 3 2 0 (by simp), trivial⟩, .none 2 rfl, trivial⟩ ⟨.refl _, .refl _, .refl _, .refl _, .refl _, trivial⟩) ?_
  rintro ⟨d, r, i, n, es, ec'⟩ ⟨g1, gi, gn, ge, gc⟩
  dsimp only at g1 gi gn ge gc ⊢
  have hesl : es.length = n := by rw [ge, mapE_len, gn]
  have hcc' : (AV.isl 3 ec').closed = true := by rw [gc]; exact closedC _
  cases r with
  | nil =>
    have L1 := len_split g1
    try simp only [List.length_cons, List.length_nil] at L1
    have hcd : iLt i (lenA ep) = false := lt_f e_iLt e_lenA (by omega)
    refine go rfl hX 1 (by conv => lhs; cbv; simp only [hcd]; cbv) ?_ ?_
    · first | exact trivial | (simp only [Cd.ok, ee]; and_intros <;> first | omega | rfl | (simp <;> omega))
    refine loopP_exit ?_
    refine go rfl hX 0 (by conv => lhs; cbv) ?_ ?_
    · first | exact trivial | (simp only [Cd.ok, ee]; and_intros <;> first | omega | rfl | (simp <;> omega))
    rw [List.append_nil] at g1
    refine fn_ret rfl rfl ⟨[.gone, .gone, .gone, .isl 2 es], ⟨trivial, trivial, trivial, ⟨es, rfl, (subL_closed _ (by rw [ge]; exact closed_mapE Bat.closed _)).symm⟩, trivial⟩, ?_⟩
    rw [hres, g1, ← ge, ← gc]
    exact .tup' ⟨.agg' ⟨.refl _, .cl hcc', .of (sub_whole rfl hesl.symm), trivial⟩, .refl _, trivial⟩
  | cons b r =>
    have L1 := len_split g1
    try simp only [List.length_cons, List.length_nil] at L1
    have hcd : iLt i (lenA ep) = true := lt_t e_iLt e_lenA (by omega)
    have ha := el_at e_atA hep g1 gi
    have hbenc : Bat.enc b = .agg [int b.epoch, .isl 3 (mapE Chg.enc b.cs)] := rfl
    have hus := upto_snoc e d b
    have hbs' := beyond_snoc e d b
    have hul : (beyond e d).length ≤ d.length := List.length_filter_le _ _
    have hsum : sumL s.pend = sumL d + (b.cs.length + sumL r) := by rw [g1, sumL_append]; rfl
    have hsu := sumL_upto e d
    have P40c := P40 (s.com ++ pendF (upto e d)) b.cs (by rw [List.length_append, pendF_len]; omega)
    have hcb := closedC b.cs
    have hcr := closedC (s.com ++ pendF (upto e d) ++ b.cs)
    rw [← gc] at P40c
    rw [hbenc] at ha
    generalize hbs : mapE Chg.enc b.cs = ebs at ha hbenc P40c hcb
    generalize hjj : mapE Chg.enc (s.com ++ pendF (upto e d) ++ b.cs) = ej at P40c hcr
    generalize hbe : b.epoch = be at ha hbenc hus hbs'
    refine go rfl hX 1 (by conv => lhs; cbv; simp only [hcd,ha]; cbv; simp only [hcd,ha]; cbv) ?_ ?_
    · first | exact trivial | (simp only [Cd.ok, ee]; and_intros <;> first | omega | rfl | (simp <;> omega))
    refine on_cond rfl (fun h3 => ?_) (fun h3 => ?_)
    · simp [ee, decide_eq_true_eq, decide_eq_false_iff_not, Bool.and_eq_true, Bool.or_eq_true, Bool.not_eq_true', Bool.not_eq_false', Bool.and_eq_false_iff, Bool.or_eq_false_iff, bne_iff_ne, beq_iff_eq, beq_eq_false_iff_ne, bne_eq_false_iff_eq, ne_eq, Int.not_lt, Int.not_le, Decidable.not_not] at h3
      rw [if_pos h3] at hus hbs'
      rw [List.append_nil] at hbs'
      refine go rfl hX 0 (by conv => lhs; cbv; simp only [ha]; cbv) ?_ ?_
      · first | exact trivial | (simp only [Cd.ok, ee]; and_intros <;> first | omega | rfl | (simp <;> omega))
      refine tr_draw rfl rfl ?_
      refine tr_go hX (by conv => lhs; cbv; simp only [ha]; cbv) ?_ ?_
      · first | exact trivial | (simp only [Cd.ok, ee]; and_intros <;> first | omega | rfl | (simp <;> omega))
      refine tr_pcall rfl rfl rfl P40c (closed2 hcc' hcb) ?_
      refine tr_go hX (by conv => lhs; cbv) ?_ ?_
      · first | exact trivial | (simp only [Cd.ok, ee]; and_intros <;> first | omega | rfl | (simp <;> omega))
      refine tr_nil ⟨rfl, ?_, ?_⟩
      · simp only [LooksL, lookAll, List.append, List.cons_append, List.nil_append, List.append_nil]; and_intros <;> first | trivial | (intro hp; first | rfl | exact absurd (show false = true from hp) Bool.false_ne_true)
      refine go rfl hX 0 (by conv => lhs; cbv) ?_ ?_
      · first | exact trivial | (simp only [Cd.ok, ee]; and_intros <;> first | omega | rfl | (simp <;> omega))
      refine loopP_next (d ++ [b], r, iAdd .i64 i 1, n, es, ej) ⟨by simp [g1], ?_, by dsimp only; rw [hbs', gn], by dsimp only; rw [hbs', ge], by dsimp only; rw [hus, pendF_append, ← hjj]; simp [pendF]⟩ (by simp) (ent_fw ⟨.refl _, .refl _, .refl _, .refl _, .refl _, trivial⟩)
      simp only [List.length_append, List.length_cons, List.length_nil]; exact inc_w e_iAdd gi (by omega)
    · simp [ee, decide_eq_true_eq, decide_eq_false_iff_not, Bool.and_eq_true, Bool.or_eq_true, Bool.not_eq_true', Bool.not_eq_false', Bool.and_eq_false_iff, Bool.or_eq_false_iff, bne_iff_ne, beq_iff_eq, beq_eq_false_iff_ne, bne_eq_false_iff_eq, ne_eq, Int.not_lt, Int.not_le, Decidable.not_not] at h3
      rw [if_neg (by omega)] at hus hbs'
      rw [List.append_nil] at hus
      refine go rfl hX 0 (by conv => lhs; cbv; simp only [ha]; cbv) ?_ ?_
      · first | exact trivial | (simp only [Cd.ok, ee]; and_intros <;> first | omega | rfl | (simp <;> omega))
      refine tr_draw rfl rfl ?_
      refine tr_go hX (by conv => lhs; cbv; simp only [ha]; cbv) ?_ ?_
      · first | exact trivial | (simp only [Cd.ok, ee]; and_intros <;> first | omega | rfl | (simp <;> omega))
      refine tr_nil ⟨rfl, ?_, ?_⟩
      · simp only [LooksL, lookAll, List.append, List.cons_append, List.nil_append, List.append_nil]; and_intros <;> first | trivial | (intro hp; first | rfl | exact absurd (show false = true from hp) Bool.false_ne_true)
      refine go rfl hX 0 (by conv => lhs; cbv) ?_ ?_
      · first | exact trivial | (simp only [Cd.ok, ee]; and_intros <;> first | omega | rfl | (simp <;> omega))
      refine loopP_next (d ++ [b], r, iAdd .i64 i 1, n + 1, mapE Bat.enc (beyond e (d ++ [b])), ec') ⟨by simp [g1], ?_, by dsimp only; rw [hbs', gn]; simp, rfl, by dsimp only; rw [hus, gc]⟩ (by simp)
        (ent_sub [.to 0, .to 1, .to 2, .gone, .gone, .to 3] [some 0, some 1, some 2, some 5] ⟨⟨by simp, rfl⟩, ⟨by simp, rfl⟩, ⟨by simp, rfl⟩, trivial, trivial, ⟨by simp, rfl⟩, trivial⟩
          ⟨osrc_cells (b := 0) rfl rfl rfl ⟨.refl _, .cl hcom, .cl hcpe, trivial⟩, osrc_cells (b := 1) rfl rfl rfl ⟨.refl _, .refl _, .refl _, trivial⟩, osrc_cells (b := 2) rfl rfl rfl ⟨.refl _, .cl hcc', .of ?_, trivial⟩, osrc_arr (b := 5) rfl rfl rfl ?_ (closed_mapE Bat.closed _), trivial⟩ ⟨.refl _, .refl _, .refl _, .refl _, .refl _, trivial⟩)
      · simp only [List.length_append, List.length_cons, List.length_nil]; exact inc_w e_iAdd gi (by omega)
      · simp only [ee]; rfl
      · simp only [ee]
        show es.drop 0 ++ [AV.agg [.val (.int .i64 be), .isl 3 ebs]] = _
        rw [List.drop_zero, ge, ← hbenc, mapE_snoc, hbs']
end Go.Am
end
section
set_option linter.unusedVariables false
set_option linter.unusedSimpArgs false
set_option maxRecDepth 20000
namespace Go.Am
open Go.Proofs

theorem P32 (l : List Chg) (hl : Short l) : PCall EE 32 [.isl 3 (mapE Chg.enc l)] (int (changesF l)) := by
  unfold Short at hl
  refine words fun iLt iLe iEq iNe iAdd iSub iMul iQuo iRem iShr iNeg iCvt iMax iMin bNot bEq bNe bAnd bOr sEq sNe sLen sCat sCut sAt lenA lenN iOf natOf atA atN cutA partA dropA catA setA repA putA idxN addN subN minN lenCut hX e_iLt e_iLe e_iEq e_iNe e_iAdd e_iSub e_iMul e_iQuo e_iRem e_iShr e_iNeg e_iCvt e_iMax e_iMin e_bNot e_bEq e_bNe e_bAnd e_bOr e_sEq e_sNe e_sLen e_sCat e_sCut e_sAt e_lenA e_lenN e_iOf e_natOf e_atA e_atN e_cutA e_partA e_dropA e_catA e_setA e_repA e_putA e_idxN e_addN e_subN e_minN e_lenCut ee => ?_
  have hcl := closedC l
  generalize hes : mapE Chg.enc l = es at *
  have hel : es.length = l.length := by rw [← hes, mapE_len]
  refine fn_body (fn := Try.f32) (n := 30) (ac := Tryc32) (rvs := [.t 2]) rfl (by decide) Tryp32 rfl rfl rfl ?_
  refine go rfl hX 0 (by conv => lhs; cbv) ?_ ?_
  · first | exact trivial | (simp only [Cd.ok, ee]; and_intros <;> first | omega | rfl | (simp <;> omega))
  refine on_loopP (ι := List Chg × List Chg × Int) (fun p => ([(7, int p.2.2), (6, int (lenA es)), (5, .isl 3 es)], [])) (fun p => l = p.1 ++ p.2.1 ∧ p.2.2 = p.1.length ∧ changesF l = changesF p.2.1) (fun p => p.2.1.length) ([], l, 0) ⟨rfl, rfl, rfl⟩ (ent_fw ⟨.refl _, .refl _, .refl _, trivial⟩) ?_
  rintro ⟨d, r, i⟩ ⟨h1, hi, h2⟩
  dsimp only at h1 hi h2 ⊢
  cases r with
  | nil =>
    have L1 := len_split h1
    try simp only [List.length_cons, List.length_nil] at L1
    have hc : iLt i (lenA es) = false := lt_f e_iLt e_lenA (by omega)
    refine go rfl hX 1 (by conv => lhs; cbv; simp only [hc]; cbv) ?_ ?_
    · first | exact trivial | (simp only [Cd.ok, ee]; and_intros <;> first | omega | rfl | (simp <;> omega))
    refine loopP_exit ?_
    refine go rfl hX 0 (by conv => lhs; cbv) ?_ ?_
    · first | exact trivial | (simp only [Cd.ok, ee]; and_intros <;> first | omega | rfl | (simp <;> omega))
    refine fn_ret rfl rfl (.val ?_)
    rw [h2]; rfl
  | cons c r =>
    have L1 := len_split h1
    try simp only [List.length_cons, List.length_nil] at L1
    have hc : iLt i (lenA es) = true := lt_t e_iLt e_lenA (by omega)
    obtain ⟨sg, q, bs⟩ := c
    have hat := el_at e_atA hes h1 hi
    dsimp only [Chg.enc] at hat
    have hbc : (AV.isl 4 (mapE Bnd.enc bs)).closed = true := by simp [AV.closed, closed_mapE Bnd.closed]
    generalize mapE Bnd.enc bs = ebs at hat hbc
    refine go rfl hX 1 (by conv => lhs; cbv; simp only [hc,hat]; cbv; simp only [hc,hat]; cbv) ?_ ?_
    · first | exact trivial | (simp only [Cd.ok, ee]; and_intros <;> first | omega | rfl | (simp <;> omega))
    refine on_cond rfl (fun h3 => ?_) (fun h3 => ?_)
    · simp [ee, decide_eq_true_eq, decide_eq_false_iff_not, Bool.and_eq_true, Bool.or_eq_true, Bool.not_eq_true', Bool.not_eq_false', Bool.and_eq_false_iff, Bool.or_eq_false_iff, bne_iff_ne, beq_iff_eq, beq_eq_false_iff_ne, bne_eq_false_iff_eq, ne_eq, Int.not_lt, Int.not_le, Decidable.not_not] at h3
      refine go rfl hX 0 (by conv => lhs; cbv) ?_ ?_
      · first | exact trivial | (simp only [Cd.ok, ee]; and_intros <;> first | omega | rfl | (simp <;> omega))
      refine loopP_ret ?_
      refine go rfl hX 0 (by conv => lhs; cbv) ?_ ?_
      · first | exact trivial | (simp only [Cd.ok, ee]; and_intros <;> first | omega | rfl | (simp <;> omega))
      refine fn_ret rfl rfl (.val ?_)
      rw [h2]; simp [changesF, changeF, h3]
    · simp [ee, decide_eq_true_eq, decide_eq_false_iff_not, Bool.and_eq_true, Bool.or_eq_true, Bool.not_eq_true', Bool.not_eq_false', Bool.and_eq_false_iff, Bool.or_eq_false_iff, bne_iff_ne, beq_iff_eq, beq_eq_false_iff_ne, bne_eq_false_iff_eq, ne_eq, Int.not_lt, Int.not_le, Decidable.not_not] at h3
      refine go rfl hX 0 (by conv => lhs; cbv) ?_ ?_
      · first | exact trivial | (simp only [Cd.ok, ee]; and_intros <;> first | omega | rfl | (simp <;> omega))
      refine on_cond rfl (fun h4 => ?_) (fun h4 => ?_)
      · simp [ee, decide_eq_true_eq, decide_eq_false_iff_not, Bool.and_eq_true, Bool.or_eq_true, Bool.not_eq_true', Bool.not_eq_false', Bool.and_eq_false_iff, Bool.or_eq_false_iff, bne_iff_ne, beq_iff_eq, beq_eq_false_iff_ne, bne_eq_false_iff_eq, ne_eq, Int.not_lt, Int.not_le, Decidable.not_not] at h4
        refine go rfl hX 0 (by conv => lhs; cbv) ?_ ?_
        · first | exact trivial | (simp only [Cd.ok, ee]; and_intros <;> first | omega | rfl | (simp <;> omega))
        refine loopP_ret ?_
        refine go rfl hX 0 (by conv => lhs; cbv) ?_ ?_
        · first | exact trivial | (simp only [Cd.ok, ee]; and_intros <;> first | omega | rfl | (simp <;> omega))
        refine fn_ret rfl rfl (.val ?_)
        have : changeF ⟨sg, q, bs⟩ = 2 := by unfold changeF; rw [if_neg (by simp; omega), if_pos (by simp; omega)]
        rw [h2]; simp [changesF, this]
      · simp [ee, decide_eq_true_eq, decide_eq_false_iff_not, Bool.and_eq_true, Bool.or_eq_true, Bool.not_eq_true', Bool.not_eq_false', Bool.and_eq_false_iff, Bool.or_eq_false_iff, bne_iff_ne, beq_iff_eq, beq_eq_false_iff_ne, bne_eq_false_iff_eq, ne_eq, Int.not_lt, Int.not_le, Decidable.not_not] at h4
        refine go rfl hX 0 (by conv => lhs; cbv) ?_ ?_
        · first | exact trivial | (simp only [Cd.ok, ee]; and_intros <;> first | omega | rfl | (simp <;> omega))
        have : changeF ⟨sg, q, bs⟩ = 0 := by unfold changeF; rw [if_neg (by simp; omega), if_neg (by simp; omega)]
        refine loopP_next (d ++ [⟨sg, q, bs⟩], r, iAdd .i64 i 1) ⟨by simp [h1], ?_, by rw [h2]; simp [changesF, this]⟩ (by simp) (ent_sub [.gone] [] ⟨trivial, trivial⟩ trivial ⟨.refl _, .refl _, .cl hcl, trivial⟩)
        simp only [List.length_append, List.length_cons, List.length_nil]; exact inc_w e_iAdd hi (by omega)

theorem P39 (l : List Bat) : PCall EE 39 [.isl 2 (mapE Bat.enc l)] (.fn 51 [.iptr [.isl 2 (mapE Bat.enc l)]]) := by
  refine words fun iLt iLe iEq iNe iAdd iSub iMul iQuo iRem iShr iNeg iCvt iMax iMin bNot bEq bNe bAnd bOr sEq sNe sLen sCat sCut sAt lenA lenN iOf natOf atA atN cutA partA dropA catA setA repA putA idxN addN subN minN lenCut hX e_iLt e_iLe e_iEq e_iNe e_iAdd e_iSub e_iMul e_iQuo e_iRem e_iShr e_iNeg e_iCvt e_iMax e_iMin e_bNot e_bEq e_bNe e_bAnd e_bOr e_sEq e_sNe e_sLen e_sCat e_sCut e_sAt e_lenA e_lenN e_iOf e_natOf e_atA e_atN e_cutA e_partA e_dropA e_catA e_setA e_repA e_putA e_idxN e_addN e_subN e_minN e_lenCut ee => ?_
  have hcl := closedB l
  generalize hes : mapE Bat.enc l = es at *
  refine fn_body (fn := Try.f39) (n := 4) (ac := Tryc39) (rvs := [.t 2]) rfl (by decide) Tryp39 rfl rfl rfl ?_
  refine go rfl hX 0 (by conv => lhs; cbv) ?_ ?_
  · first | exact trivial | (simp only [Cd.ok, ee]; and_intros <;> first | omega | rfl | (simp <;> omega))
  refine fn_ret rfl rfl ⟨[.icells [.isl 2 es]], ⟨⟨_, rfl, ?_⟩, trivial⟩, .refl _⟩
  exact (subL_closed _ (closed1 hcl)).symm

theorem P51 (bs : List Bat) (hbs : Short bs) (hcs : ∀ b ∈ bs, Short b.cs) (A B C : List Chg → AObj) (Lp : AObj) (H0 : AHeap) (hN : H0.length = 3) (h0 : HEnt EE 3 2 H0 [A [], B [], Lp, C []]) (hb : ∀ d, ∀ o ∈ [A d, B d, Lp, C d], o.sub (keepS 4) = o)
    (hy : ∀ d c r, pendF bs = d ++ c :: r → AYield EE 2 [c.enc] [A d, B d, Lp, C d] (fun v H' => v = .val (.bool true) ∧ HEnt EE 3 2 H' [A (d ++ [c]), B (d ++ [c]), Lp, C (d ++ [c])])) :
    ACall EE 51 [.yld 2, .iptr [.isl 2 (mapE Bat.enc bs)]] H0 (fun _ H' => H' = [A (pendF bs), B (pendF bs), Lp, C (pendF bs)]) := by
  unfold Short at hbs
  refine words fun iLt iLe iEq iNe iAdd iSub iMul iQuo iRem iShr iNeg iCvt iMax iMin bNot bEq bNe bAnd bOr sEq sNe sLen sCat sCut sAt lenA lenN iOf natOf atA atN cutA partA dropA catA setA repA putA idxN addN subN minN lenCut hX e_iLt e_iLe e_iEq e_iNe e_iAdd e_iSub e_iMul e_iQuo e_iRem e_iShr e_iNeg e_iCvt e_iMax e_iMin e_bNot e_bEq e_bNe e_bAnd e_bOr e_sEq e_sNe e_sLen e_sCat e_sCut e_sAt e_lenA e_lenN e_iOf e_natOf e_atA e_atN e_cutA e_partA e_dropA e_catA e_setA e_repA e_putA e_idxN e_addN e_subN e_minN e_lenCut ee => ?_
  have hclo := closedB bs
  generalize hes : mapE Bat.enc bs = es at *
  have hel : es.length = bs.length := by rw [← hes, mapE_len]
  have hcl1 : (AV.iptr [.isl 2 es]).closed = true := closed1 hclo
  have hbt : bNot true = false := by rw [e_bNot]; rfl
  refine rcall_body (fn := Try.f51) (n := 26) (ac := Tryc51) (rvs := []) rfl Tryp51 rfl rfl rfl ?_
  rw [hN]
  refine on_ent (h0.ent (F' := [(0, .yld 2), (1, .iptr [.isl 2 es])]) ⟨.refl _, .cl hcl1, trivial⟩) ?_
  refine go rfl hX 0 (by conv => lhs; cbv) ?_ ?_
  · first | exact trivial | (simp only [Cd.ok, ee]; and_intros <;> first | omega | rfl | (simp <;> omega))
  refine on_loopP (ι := List Bat × List Bat × Int × List Chg) (fun p => ([(9, int p.2.2.1), (8, int (lenA es)), (7, .isl 2 es), (0, .yld 2)], [A p.2.2.2, B p.2.2.2, Lp, C p.2.2.2])) (fun p => bs = p.1 ++ p.2.1 ∧ p.2.2.1 = p.1.length ∧ p.2.2.2 = pendF p.1) (fun p => p.2.1.length) ([], bs, 0, []) ⟨rfl, rfl, rfl⟩ (ent_fw ⟨.refl _, .refl _, .refl _, .refl _, trivial⟩) ?_
  rintro ⟨d, r, i, o⟩ ⟨g1, gi, gof⟩
  dsimp only at g1 gi gof ⊢
  cases r with
  | nil =>
    have L1 := len_split g1
    try simp only [List.length_cons, List.length_nil] at L1
    have hc : iLt i (lenA es) = false := lt_f e_iLt e_lenA (by omega)
    refine go rfl hX 1 (by conv => lhs; cbv; simp only [hc]; cbv) ?_ ?_
    · first | exact trivial | (simp only [Cd.ok, ee]; and_intros <;> first | omega | rfl | (simp <;> omega))
    refine loopP_exit ?_
    refine go rfl hX 0 (by conv => lhs; cbv) ?_ ?_
    · first | exact trivial | (simp only [Cd.ok, ee]; and_intros <;> first | omega | rfl | (simp <;> omega))
    rw [List.append_nil] at g1
    exact o_norm (.refl _ _ _ _ _) rfl (by rw [g1, gof])
  | cons b r =>
    have L1 := len_split g1
    try simp only [List.length_cons, List.length_nil] at L1
    have hc : iLt i (lenA es) = true := lt_t e_iLt e_lenA (by omega)
    have hat := el_at e_atA hes g1 gi
    dsimp only [Bat.enc] at hat
    have hcb := closedC b.cs
    have hbm := hcs b (by rw [g1]; simp)
    unfold Short at hbm
    generalize hebs : mapE Chg.enc b.cs = ebs at hat hcb
    have hebl : ebs.length = b.cs.length := by rw [← hebs, mapE_len]
    refine go rfl hX 1 (by conv => lhs; cbv; simp only [hc,hat]; cbv; simp only [hc,hat]; cbv) ?_ ?_
    · first | exact trivial | (simp only [Cd.ok, ee]; and_intros <;> first | omega | rfl | (simp <;> omega))
    refine on_loopP (ι := List Chg × List Chg × Int × List Chg) (fun p => ([(16, int p.2.2.1), (15, int (lenA ebs)), (14, .isl 3 ebs), (9, int i), (8, int (lenA es)), (7, .isl 2 es), (0, .yld 2)], [A p.2.2.2, B p.2.2.2, Lp, C p.2.2.2])) (fun p => b.cs = p.1 ++ p.2.1 ∧ p.2.2.1 = p.1.length ∧ p.2.2.2 = o ++ p.1) (fun p => p.2.1.length) ([], b.cs, 0, o) ⟨rfl, rfl, by simp⟩
      (ent_drop (H := [A o, B o, Lp, C o]) (X := [_]) (hb o) (by simp) ⟨.refl _, .refl _, .cl hcb, .refl _, .refl _, .cl hclo, .refl _, trivial⟩) ?_
    rintro ⟨dc, rc, j, o2⟩ ⟨k1, kj, ko⟩
    dsimp only at k1 kj ko ⊢
    cases rc with
    | nil =>
      have L2 := len_split k1
      try simp only [List.length_cons, List.length_nil] at L2
      have hc2 : iLt j (lenA ebs) = false := lt_f e_iLt e_lenA (by omega)
      refine go rfl hX 1 (by conv => lhs; cbv; simp only [hc2]; cbv) ?_ ?_
      · first | exact trivial | (simp only [Cd.ok, ee]; and_intros <;> first | omega | rfl | (simp <;> omega))
      refine loopP_exit ?_
      refine go rfl hX 0 (by conv => lhs; cbv) ?_ ?_
      · first | exact trivial | (simp only [Cd.ok, ee]; and_intros <;> first | omega | rfl | (simp <;> omega))
      rw [List.append_nil] at k1
      refine loopP_next (d ++ [b], r, iAdd .i64 i 1, o2) ⟨by simp [g1], ?_, by dsimp only; rw [ko, gof, pendF_append]; simp [pendF, k1]⟩ (by simp) (ent_fw ⟨.refl _, .refl _, .refl _, .refl _, trivial⟩)
      simp only [List.length_append, List.length_cons, List.length_nil]; exact inc_w e_iAdd gi (by omega)
    | cons c rc =>
      have L2 := len_split k1
      try simp only [List.length_cons, List.length_nil] at L2
      have hc2 : iLt j (lenA ebs) = true := lt_t e_iLt e_lenA (by omega)
      have hat2 := el_at e_atA hebs k1 kj
      have hce : c.enc.closed = true := Chg.closed c
      have hyc := hy o2 c (rc ++ pendF r) (by rw [g1, pendF_append, ko, gof]; simp [pendF, k1])
      have hcenc : c.enc = .agg [int c.sign, int c.query, .isl 4 (mapE Bnd.enc c.bs)] := rfl
      rw [hcenc] at hat2 hce hyc
      generalize mapE Bnd.enc c.bs = ebn at hat2 hce hyc
      generalize c.sign = sg at hat2 hce hyc
      generalize c.query = qu at hat2 hce hyc
      refine go rfl hX 1 (by conv => lhs; cbv; simp only [hc2,hat2]; cbv; simp only [hc2,hat2]; cbv) ?_ ?_
      · first | exact trivial | (simp only [Cd.ok, ee]; and_intros <;> first | omega | rfl | (simp <;> omega))
      refine on_drop (H := [A o2, B o2, Lp, C o2]) (X := [_]) (F' := [(21, .agg [int sg, int qu, .isl 4 ebn]), (20, .yld 2), (16, int j), (15, int (lenA ebs)), (14, .isl 3 ebs), (9, int i), (8, int (lenA es)), (7, .isl 2 es), (0, .yld 2)]) (hb o2) (by simp) ⟨.cl hce, .refl _, .refl _, .refl _, .cl hcb, .refl _, .refl _, .cl hclo, .refl _, trivial⟩ ?_
      refine on_callv rfl rfl rfl rfl hyc ?_
      rintro v H1 ⟨rfl, he⟩
      refine on_entO (he.ent (F' := [(22, .val (.bool true)), (16, int j), (15, int (lenA ebs)), (14, .isl 3 ebs), (9, int i), (8, int (lenA es)), (7, .isl 2 es), (0, .yld 2)]) ⟨.refl _, .refl _, .refl _, .cl hcb, .refl _, .refl _, .cl hclo, .refl _, trivial⟩) ?_
      have ho2 : o2 ++ [c] = o ++ (dc ++ [c]) := by rw [ko, List.append_assoc]
      generalize hoo : o2 ++ [c] = o3 at ho2 ⊢
      refine go rfl hX 1 (by conv => lhs; cbv; simp only [hbt]; cbv) ?_ ?_
      · first | exact trivial | (simp only [Cd.ok, ee]; and_intros <;> first | omega | rfl | (simp <;> omega))
      refine loopP_next (dc ++ [c], rc, iAdd .i64 j 1, o3) ⟨by simp [k1], ?_, ho2⟩ (by simp) (ent_fw ⟨.refl _, .refl _, .refl _, .refl _, .refl _, .refl _, .refl _, trivial⟩)
      simp only [List.length_append, List.length_cons, List.length_nil]; exact inc_w e_iAdd kj (by omega)
end Go.Am
end
section
set_option linter.unusedVariables false
set_option linter.unusedSimpArgs false
set_option maxRecDepth 20000
namespace Go.Am
open Go.Proofs

theorem enters51 : Enters EE.P 51 := enters_of (fn := Try.f51) (n := 26) (ac := Tryc51) rfl (by decide) Tryp51
theorem P33 (s : Snk) (hf : s.Fine) (hc : countF s < 1152921504606846976) : PCall EE 33 [s.enc] (int (countF s)) := by
  have hlen := pendF_len s.pend
  have P39c := P39 s.pend
  have P51c := P51 s.pend hf.pend (fun b hb => (hf.bats b hb).1)
  have hcp := closedB s.pend
  have hcom := closedC s.com
  have hce : ∀ c : Chg, c.enc.closed = true := Chg.closed
  unfold countF at hc ⊢
  obtain ⟨e, com, pend⟩ := s
  dsimp only at *
  refine words fun iLt iLe iEq iNe iAdd iSub iMul iQuo iRem iShr iNeg iCvt iMax iMin bNot bEq bNe bAnd bOr sEq sNe sLen sCat sCut sAt lenA lenN iOf natOf atA atN cutA partA dropA catA setA repA putA idxN addN subN minN lenCut hX e_iLt e_iLe e_iEq e_iNe e_iAdd e_iSub e_iMul e_iQuo e_iRem e_iShr e_iNeg e_iCvt e_iMax e_iMin e_bNot e_bEq e_bNe e_bAnd e_bOr e_sEq e_sNe e_sLen e_sCat e_sCut e_sAt e_lenA e_lenN e_iOf e_natOf e_atA e_atN e_cutA e_partA e_dropA e_catA e_setA e_repA e_putA e_idxN e_addN e_subN e_minN e_lenCut ee => ?_
  have henc : (⟨e, com, pend⟩ : Snk).enc = .agg [int e, .isl 3 (mapE Chg.enc com), .isl 2 (mapE Bat.enc pend)] := rfl
  rw [henc]
  generalize hep : mapE Bat.enc pend = ep at *
  generalize hec : mapE Chg.enc com = ec at *
  have hcl : ec.length = com.length := by rw [← hec, mapE_len]
  refine fn_body (fn := Try.f33) (n := 14) (ac := Tryc33) (rvs := [.t 2]) rfl (by decide) Tryp33 rfl rfl rfl ?_
  refine go rfl hX 0 (by conv => lhs; cbv) ?_ ?_
  · first | exact trivial | (simp only [Cd.ok, ee]; and_intros <;> first | omega | rfl | (simp <;> omega))
  refine on_pcall rfl rfl rfl P39c (closed1 hcp) ?_
  refine go rfl hX 0 (by conv => lhs; cbv) ?_ ?_
  · first | exact trivial | (simp only [Cd.ok, ee]; and_intros <;> first | omega | rfl | (simp <;> omega))
  have hle : lenA ec = (com.length : Int) := by simp [ee, hcl]
  rw [hle]
  generalize hn0 : (com.length : Int) = n0
  have hfn : (AV.fn 51 [.iptr [.isl 2 ep]]).closed = true := closed1 (v := .iptr [.isl 2 ep]) (closed1 hcp)
  refine on_ent (F' := [(3, .ptr 1 0), (9, .fn 51 [.iptr [.isl 2 ep]])]) (ent_fw ⟨.refl _, .refl _, trivial⟩) ?_
  refine on_rfun (g := 51) (cs := [.iptr [.isl 2 ep]]) rfl enters51 ?_
  generalize hbody : ACode.block 1 (ACode.reg [{ dst := some 11, op := AOp.ld 1 false (Opd.t 3), after := [], guard := none }, { dst := some 12, op := AOp.bin BinOp.add (Opd.t 11) (Opd.c (AV.val (Value.int IntKind.i64 1))), after := [0], guard := none }, { dst := none, op := AOp.st 1 (Opd.t 3) (Opd.t 12), after := [1, 0, 1], guard := none }]) = body
  have hsC : AV.closedL [int e, .isl 3 ec, .isl 2 ep] = true := by simp [AV.closedL, hcom, hcp, AV.closed]; exact ⟨hcom, hcp⟩
  have hLp : ∀ σ, σ 1 = .to 1 → AObj.sub σ (.loop [(3, .ptr 1 0), (9, .fn 51 [.iptr [.isl 2 ep]])] 14 [10] .skip body .ready none) = .loop [(3, .ptr 1 0), (9, .fn 51 [.iptr [.isl 2 ep]])] 14 [10] .skip body .ready none := by
    intro σ hσ
    have h1 : (AV.ptr 1 0).sub σ = .ptr 1 0 := by simp only [AV.sub, hσ]
    have h2 := sub_closed σ _ _ (Nat.le_refl _) hfn
    simp only [AObj.sub, AFr.sub, List.map, h1, h2]
  refine ACall.mono (P51c (fun _ => .cells [int e, .isl 3 ec, .isl 2 ep]) (fun d => .cells [int (n0 + d.length)]) (fun _ => .dead) (.loop [(3, .ptr 1 0), (9, .fn 51 [.iptr [.isl 2 ep]])] 14 [10] .skip body .ready none) _ rfl ?_ ?_ ?_) ?_
  · refine hent_sub [.to 0, .to 1, .to 2] [some 0, some 1, some 2, none] rfl ⟨rfl, rfl, rfl, trivial⟩ (by simp) (by simp) ⟨⟨by simp, rfl⟩, ⟨by simp, rfl⟩, ⟨by simp, rfl⟩, trivial⟩
      ⟨osrc_cells (b := 0) rfl rfl rfl ?_, osrc_cells (b := 1) rfl rfl rfl ⟨.of (by simp [AV.sub]), trivial⟩, .some 2 _ _ rfl rfl rfl (.loop _ _ _ _ _ _ _ _ ⟨.refl _, .cl hfn, trivial⟩), .dead, trivial⟩
    rw [subL_closed _ hsC]; exact WkL.refl _ _
  · intro d o ho
    simp only [List.mem_cons, List.not_mem_nil, or_false] at ho
    rcases ho with rfl | rfl | rfl | rfl
    · simp only [AObj.sub]; rw [subL_closed _ hsC]
    · rfl
    · exact hLp _ rfl
    · rfl
  · intro d c r hd
    have hcc := hce c
    have hl := congrArg List.length hd
    simp only [List.length_append, List.length_cons] at hl
    have hsucc : n0 + ((d ++ [c]).length : Int) = (n0 + (d.length : Int)) + 1 := by simp; omega
    rw [hsucc]
    have hm1 : -9223372036854775808 ≤ n0 + (d.length : Int) + 1 := by omega
    have hm2 : n0 + (d.length : Int) + 1 < 9223372036854775808 := by omega
    generalize n0 + (d.length : Int) = m at hm1 hm2
    generalize c.enc = ce at hcc
    refine yield_round (l := 2) rfl rfl ?_
    refine go rfl hX 0 (by conv => lhs; cbv) ?_ ?_
    · first | exact trivial | (simp only [Cd.ok, ee]; and_intros <;> first | omega | rfl | (simp <;> omega))
    refine ⟨rfl, none, rfl, ?_⟩
    rw [← hbody]
    refine go rfl hX 0 (by conv => lhs; cbv) ?_ ?_
    · first | exact trivial | (simp only [Cd.ok, ee]; and_intros <;> first | omega | rfl | (simp <;> omega))
    refine ⟨none, rfl, rfl, ?_⟩
    have hadd := add_w e_iAdd (a := m) (b := 1) hm1 hm2
    rw [hadd]
    exact HEnt.refl (by simp)
  · rintro v H1 rfl
    refine ⟨.ready, none, rfl, by simp, ?_⟩
    have hfin : n0 + ((pendF pend).length : Int) = ((com.length + sumL pend : Nat) : Int) := by rw [hlen, ← hn0]; simp
    rw [hfin]
    generalize hz : ((com.length + sumL pend : Nat) : Int) = z
    show Holds EE 14 0 (RetQ [RV.t 2] (int z)) (.out .normal) _ _ _
    refine go rfl hX 0 (by conv => lhs; cbv) ?_ ?_
    · first | exact trivial | (simp only [Cd.ok, ee]; and_intros <;> first | omega | rfl | (simp <;> omega))
    exact fn_ret rfl rfl (.val rfl)

theorem P12 (s : Snk) (hf : s.Fine) (hc : countF s < 1152921504606846976) : PCall EE 12 [s.enc] (int (checkF s)) := by
  have P32c := P32 s.com hf.com.1
  have P33c := P33 s hf hc
  have hb32 := fun b (hb : b ∈ s.pend) => P32 b.cs (hf.bats b hb).1
  have hsp := hf.pend
  unfold Short at hsp
  have hclosed := Snk.closed s
  generalize hcs : countF s = cnt at P33c hc
  generalize hch : changesF s.com = ch at P32c
  unfold checkF
  rw [hcs, hch]
  clear hf
  obtain ⟨e, com, pend⟩ := s
  dsimp only at *
  refine words fun iLt iLe iEq iNe iAdd iSub iMul iQuo iRem iShr iNeg iCvt iMax iMin bNot bEq bNe bAnd bOr sEq sNe sLen sCat sCut sAt lenA lenN iOf natOf atA atN cutA partA dropA catA setA repA putA idxN addN subN minN lenCut hX e_iLt e_iLe e_iEq e_iNe e_iAdd e_iSub e_iMul e_iQuo e_iRem e_iShr e_iNeg e_iCvt e_iMax e_iMin e_bNot e_bEq e_bNe e_bAnd e_bOr e_sEq e_sNe e_sLen e_sCat e_sCut e_sAt e_lenA e_lenN e_iOf e_natOf e_atA e_atN e_cutA e_partA e_dropA e_catA e_setA e_repA e_putA e_idxN e_addN e_subN e_minN e_lenCut ee => ?_
  have henc : (⟨e, com, pend⟩ : Snk).enc = .agg [int e, .isl 3 (mapE Chg.enc com), .isl 2 (mapE Bat.enc pend)] := rfl
  simp only [henc] at P33c hclosed ⊢
  have hcc : (AV.isl 3 (mapE Chg.enc com)).closed = true := closedC com
  have hcpp : (AV.isl 2 (mapE Bat.enc pend)).closed = true := closedB pend
  generalize hec : mapE Chg.enc com = ec at P32c P33c hclosed hcc ⊢
  generalize hep : mapE Bat.enc pend = ep at P33c hclosed hcpp ⊢
  have hpl : ep.length = pend.length := by rw [← hep, mapE_len]
  refine fn_body (fn := Try.f12) (n := 76) (ac := Tryc12) (rvs := [.t 2]) rfl (by decide) Tryp12 rfl rfl rfl ?_
  refine go rfl hX 0 (by conv => lhs; cbv) ?_ ?_
  · first | exact trivial | (simp only [Cd.ok, ee]; and_intros <;> first | omega | rfl | (simp <;> omega))
  refine on_cond rfl (fun h1 => ?_) (fun h1 => ?_)
  · simp [ee, decide_eq_true_eq, decide_eq_false_iff_not, Bool.and_eq_true, Bool.or_eq_true, Bool.not_eq_true', Bool.not_eq_false', Bool.and_eq_false_iff, Bool.or_eq_false_iff, bne_iff_ne, beq_iff_eq, beq_eq_false_iff_ne, bne_eq_false_iff_eq, ne_eq, Int.not_lt, Int.not_le, Decidable.not_not] at h1
    refine go rfl hX 0 (by conv => lhs; cbv) ?_ ?_
    · first | exact trivial | (simp only [Cd.ok, ee]; and_intros <;> first | omega | rfl | (simp <;> omega))
    refine fn_ret rfl rfl (.val ?_)
    rw [if_pos (by omega)]
  simp [ee, decide_eq_true_eq, decide_eq_false_iff_not, Bool.and_eq_true, Bool.or_eq_true, Bool.not_eq_true', Bool.not_eq_false', Bool.and_eq_false_iff, Bool.or_eq_false_iff, bne_iff_ne, beq_iff_eq, beq_eq_false_iff_ne, bne_eq_false_iff_eq, ne_eq, Int.not_lt, Int.not_le, Decidable.not_not] at h1
  rw [if_neg (by omega)]
  refine go rfl hX 0 (by conv => lhs; cbv) ?_ ?_
  · first | exact trivial | (simp only [Cd.ok, ee]; and_intros <;> first | omega | rfl | (simp <;> omega))
  refine on_cond rfl (fun h2 => ?_) (fun h2 => ?_)
  · simp [ee, decide_eq_true_eq, decide_eq_false_iff_not, Bool.and_eq_true, Bool.or_eq_true, Bool.not_eq_true', Bool.not_eq_false', Bool.and_eq_false_iff, Bool.or_eq_false_iff, bne_iff_ne, beq_iff_eq, beq_eq_false_iff_ne, bne_eq_false_iff_eq, ne_eq, Int.not_lt, Int.not_le, Decidable.not_not, hpl] at h2
    refine go rfl hX 0 (by conv => lhs; cbv) ?_ ?_
    · first | exact trivial | (simp only [Cd.ok, ee]; and_intros <;> first | omega | rfl | (simp <;> omega))
    refine fn_ret rfl rfl (.val ?_)
    rw [if_pos (by omega)]
  simp [ee, decide_eq_true_eq, decide_eq_false_iff_not, Bool.and_eq_true, Bool.or_eq_true, Bool.not_eq_true', Bool.not_eq_false', Bool.and_eq_false_iff, Bool.or_eq_false_iff, bne_iff_ne, beq_iff_eq, beq_eq_false_iff_ne, bne_eq_false_iff_eq, ne_eq, Int.not_lt, Int.not_le, Decidable.not_not, hpl] at h2
  rw [if_neg (by omega)]
  refine go rfl hX 0 (by conv => lhs; cbv) ?_ ?_
  · first | exact trivial | (simp only [Cd.ok, ee]; and_intros <;> first | omega | rfl | (simp <;> omega))
  refine on_pcall rfl rfl rfl P32c (closed1 hcc) ?_
  refine go rfl hX 0 (by conv => lhs; cbv) ?_ ?_
  · first | exact trivial | (simp only [Cd.ok, ee]; and_intros <;> first | omega | rfl | (simp <;> omega))
  refine on_cond rfl (fun h3 => ?_) (fun h3 => ?_)
  · simp [ee, decide_eq_true_eq, decide_eq_false_iff_not, Bool.and_eq_true, Bool.or_eq_true, Bool.not_eq_true', Bool.not_eq_false', Bool.and_eq_false_iff, Bool.or_eq_false_iff, bne_iff_ne, beq_iff_eq, beq_eq_false_iff_ne, bne_eq_false_iff_eq, ne_eq, Int.not_lt, Int.not_le, Decidable.not_not] at h3
    refine go rfl hX 0 (by conv => lhs; cbv) ?_ ?_
    · first | exact trivial | (simp only [Cd.ok, ee]; and_intros <;> first | omega | rfl | (simp <;> omega))
    refine fn_ret rfl rfl (.val ?_)
    rw [if_pos h3]
  simp [ee, decide_eq_true_eq, decide_eq_false_iff_not, Bool.and_eq_true, Bool.or_eq_true, Bool.not_eq_true', Bool.not_eq_false', Bool.and_eq_false_iff, Bool.or_eq_false_iff, bne_iff_ne, beq_iff_eq, beq_eq_false_iff_ne, bne_eq_false_iff_eq, ne_eq, Int.not_lt, Int.not_le, Decidable.not_not] at h3
  subst h3
  rw [if_neg (by simp)]
  refine go rfl hX 0 (by conv => lhs; cbv) ?_ ?_
  · first | exact trivial | (simp only [Cd.ok, ee]; and_intros <;> first | omega | rfl | (simp <;> omega))
  refine on_loopP (ι := List Bat × List Bat × Int) (fun p => ([(30, int p.2.2), (29, int (lenA ep)), (28, .isl 2 ep), (1, .ptr 0 0)], [.cells [int e, .isl 3 ec, .isl 2 ep]])) (fun p => pend = p.1 ++ p.2.1 ∧ p.2.2 = p.1.length ∧ batsF e none pend = batsF e (lastE p.1) p.2.1) (fun p => p.2.1.length) ([], pend, 0) ⟨rfl, rfl, rfl⟩ (ent_fw ⟨.refl _, .refl _, .refl _, .refl _, trivial⟩) ?_
  rintro ⟨d, r, i⟩ ⟨g1, gi, gb⟩
  dsimp only at g1 gi gb ⊢
  cases r with
  | nil =>
    have L1 := len_split g1
    try simp only [List.length_cons, List.length_nil] at L1
    have hcd : iLt i (lenA ep) = false := lt_f e_iLt e_lenA (by omega)
    refine go rfl hX 1 (by conv => lhs; cbv; simp only [hcd]; cbv) ?_ ?_
    · first | exact trivial | (simp only [Cd.ok, ee]; and_intros <;> first | omega | rfl | (simp <;> omega))
    refine loopP_exit ?_
    refine go rfl hX 0 (by conv => lhs; cbv) ?_ ?_
    · first | exact trivial | (simp only [Cd.ok, ee]; and_intros <;> first | omega | rfl | (simp <;> omega))
    refine on_pcall rfl rfl rfl P33c (closed1 hclosed) ?_
    generalize hcz : (cnt : Int) = cz
    refine go rfl hX 0 (by conv => lhs; cbv) ?_ ?_
    · first | exact trivial | (simp only [Cd.ok, ee]; and_intros <;> first | omega | rfl | (simp <;> omega))
    have hb0 : batsF e none pend = 0 := by rw [gb]; rfl
    rw [hb0, if_neg (by simp)]
    refine on_cond rfl (fun h4 => ?_) (fun h4 => ?_)
    · simp [ee, decide_eq_true_eq, decide_eq_false_iff_not, Bool.and_eq_true, Bool.or_eq_true, Bool.not_eq_true', Bool.not_eq_false', Bool.and_eq_false_iff, Bool.or_eq_false_iff, bne_iff_ne, beq_iff_eq, beq_eq_false_iff_ne, bne_eq_false_iff_eq, ne_eq, Int.not_lt, Int.not_le, Decidable.not_not] at h4
      refine go rfl hX 0 (by conv => lhs; cbv) ?_ ?_
      · first | exact trivial | (simp only [Cd.ok, ee]; and_intros <;> first | omega | rfl | (simp <;> omega))
      refine fn_ret rfl rfl (.val ?_)
      rw [if_pos (by omega)]
    · simp [ee, decide_eq_true_eq, decide_eq_false_iff_not, Bool.and_eq_true, Bool.or_eq_true, Bool.not_eq_true', Bool.not_eq_false', Bool.and_eq_false_iff, Bool.or_eq_false_iff, bne_iff_ne, beq_iff_eq, beq_eq_false_iff_ne, bne_eq_false_iff_eq, ne_eq, Int.not_lt, Int.not_le, Decidable.not_not] at h4
      refine go rfl hX 0 (by conv => lhs; cbv) ?_ ?_
      · first | exact trivial | (simp only [Cd.ok, ee]; and_intros <;> first | omega | rfl | (simp <;> omega))
      refine fn_ret rfl rfl (.val ?_)
      rw [if_neg (by omega)]
  | cons b r =>
    have L1 := len_split g1
    try simp only [List.length_cons, List.length_nil] at L1
    have hcd : iLt i (lenA ep) = true := lt_t e_iLt e_lenA (by omega)
    have P32b := hb32 b (by rw [g1]; simp)
    obtain ⟨be, bcs⟩ := b
    have ha := el_at e_atA hep g1 gi
    dsimp only [Bat.enc] at ha P32b
    have hbc : (AV.isl 3 (mapE Chg.enc bcs)).closed = true := closedC bcs
    have hprev : ∃ pe x, atA ep (iSub .i64 i 1) = .agg [int pe, .isl 3 x] ∧ ∀ p, lastE d = some p → p = pe := by
      rw [sub_w e_iSub (by omega) (by omega)]
      rcases List.eq_nil_or_concat d with rfl | ⟨d', q, rfl⟩
      · exact ⟨_, _, el_at0 (enc := Bat.enc) (d := []) e_atA hep g1 (by simp [gi]), fun p h => by simp [lastE] at h⟩
      · rw [List.concat_eq_append] at g1 gi ⊢
        refine ⟨_, _, el_at0 (enc := Bat.enc) (d := d') (c := q) e_atA hep (by rw [g1, List.append_assoc]; rfl) (by simp [gi]), fun p h => ?_⟩
        simp [lastE] at h; exact h.symm
    obtain ⟨pe, x, hpa, hpe⟩ := hprev
    have hd0 : (0 < i) ↔ d ≠ [] := by rw [gi, List.ne_nil_iff_length_pos]; omega
    generalize hbs : mapE Chg.enc bcs = ebs at ha P32b hbc
    have hbl : ebs.length = bcs.length := by rw [← hbs, mapE_len]
    have hstep : batsF e none pend = if batchF e (lastE d) ⟨be, bcs⟩ ≠ 0 then batchF e (lastE d) ⟨be, bcs⟩ else batsF e (some be) r := gb
    generalize hchb : changesF bcs = chb at P32b
    refine go rfl hX 1 (by conv => lhs; cbv; simp only [hcd,ha]; cbv; simp only [hcd,ha]; cbv) ?_ ?_
    · first | exact trivial | (simp only [Cd.ok, ee]; and_intros <;> first | omega | rfl | (simp <;> omega))
    refine on_cond rfl (fun h4 => ?_) (fun h4 => ?_)
    · simp [ee, decide_eq_true_eq, decide_eq_false_iff_not, Bool.and_eq_true, Bool.or_eq_true, Bool.not_eq_true', Bool.not_eq_false', Bool.and_eq_false_iff, Bool.or_eq_false_iff, bne_iff_ne, beq_iff_eq, beq_eq_false_iff_ne, bne_eq_false_iff_eq, ne_eq, Int.not_lt, Int.not_le, Decidable.not_not] at h4
      have hbf : batchF e (lastE d) ⟨be, bcs⟩ = 29 := by unfold batchF; rw [if_pos (by dsimp only; omega)]
      rw [hstep, hbf]
      refine go rfl hX 0 (by conv => lhs; cbv) ?_ ?_
      · first | exact trivial | (simp only [Cd.ok, ee]; and_intros <;> first | omega | rfl | (simp <;> omega))
      refine loopP_ret ?_
      refine go rfl hX 0 (by conv => lhs; cbv) ?_ ?_
      · first | exact trivial | (simp only [Cd.ok, ee]; and_intros <;> first | omega | rfl | (simp <;> omega))
      exact fn_ret rfl rfl (.val rfl)
    simp [ee, decide_eq_true_eq, decide_eq_false_iff_not, Bool.and_eq_true, Bool.or_eq_true, Bool.not_eq_true', Bool.not_eq_false', Bool.and_eq_false_iff, Bool.or_eq_false_iff, bne_iff_ne, beq_iff_eq, beq_eq_false_iff_ne, bne_eq_false_iff_eq, ne_eq, Int.not_lt, Int.not_le, Decidable.not_not] at h4
    refine go rfl hX 0 (by conv => lhs; cbv; simp only [hpa]; cbv) ?_ ?_
    · simp only [Cd.ok, ee]; (simp only [Wd.iLt, decide_eq_true_eq]; intro h; rw [wrap64 (by omega) (by omega)]; omega)
    refine on_cond rfl (fun h5 => ?_) (fun h5 => ?_)
    · simp [ee, decide_eq_true_eq, decide_eq_false_iff_not, Bool.and_eq_true, Bool.or_eq_true, Bool.not_eq_true', Bool.not_eq_false', Bool.and_eq_false_iff, Bool.or_eq_false_iff, bne_iff_ne, beq_iff_eq, beq_eq_false_iff_ne, bne_eq_false_iff_eq, ne_eq, Int.not_lt, Int.not_le, Decidable.not_not] at h5
      have hne : lastE d = some pe := by
        cases hl : lastE d with
        | none => exfalso; have := hd0.1 h5.1; simp [lastE] at hl; exact this hl
        | some p => rw [hpe p hl]
      have hbf : batchF e (lastE d) ⟨be, bcs⟩ = 14 := by unfold batchF; rw [if_neg (by dsimp only; omega), if_pos ⟨pe, hne, h5.2⟩]
      rw [hstep, hbf]
      refine go rfl hX 0 (by conv => lhs; cbv) ?_ ?_
      · first | exact trivial | (simp only [Cd.ok, ee]; and_intros <;> first | omega | rfl | (simp <;> omega))
      refine loopP_ret ?_
      refine go rfl hX 0 (by conv => lhs; cbv) ?_ ?_
      · first | exact trivial | (simp only [Cd.ok, ee]; and_intros <;> first | omega | rfl | (simp <;> omega))
      exact fn_ret rfl rfl (.val rfl)
    simp [ee, decide_eq_true_eq, decide_eq_false_iff_not, Bool.and_eq_true, Bool.or_eq_true, Bool.not_eq_true', Bool.not_eq_false', Bool.and_eq_false_iff, Bool.or_eq_false_iff, bne_iff_ne, beq_iff_eq, beq_eq_false_iff_ne, bne_eq_false_iff_eq, ne_eq, Int.not_lt, Int.not_le, Decidable.not_not] at h5
    have hnl : ¬ ∃ p, lastE d = some p ∧ be ≤ p := by
      rintro ⟨p, h3, h4⟩
      have := hpe p h3
      have hdn : d ≠ [] := by rintro rfl; simp [lastE] at h3
      have := h5 (hd0.2 hdn)
      omega
    refine go rfl hX 0 (by conv => lhs; cbv) ?_ ?_
    · first | exact trivial | (simp only [Cd.ok, ee]; and_intros <;> first | omega | rfl | (simp <;> omega))
    refine on_cond rfl (fun h6 => ?_) (fun h6 => ?_)
    · simp [ee, decide_eq_true_eq, decide_eq_false_iff_not, Bool.and_eq_true, Bool.or_eq_true, Bool.not_eq_true', Bool.not_eq_false', Bool.and_eq_false_iff, Bool.or_eq_false_iff, bne_iff_ne, beq_iff_eq, beq_eq_false_iff_ne, bne_eq_false_iff_eq, ne_eq, Int.not_lt, Int.not_le, Decidable.not_not, hbl] at h6
      have hbf : batchF e (lastE d) ⟨be, bcs⟩ = 3 := by unfold batchF; rw [if_neg (by dsimp only; omega), if_neg hnl, if_pos h6]
      rw [hstep, hbf]
      refine go rfl hX 0 (by conv => lhs; cbv) ?_ ?_
      · first | exact trivial | (simp only [Cd.ok, ee]; and_intros <;> first | omega | rfl | (simp <;> omega))
      refine loopP_ret ?_
      refine go rfl hX 0 (by conv => lhs; cbv) ?_ ?_
      · first | exact trivial | (simp only [Cd.ok, ee]; and_intros <;> first | omega | rfl | (simp <;> omega))
      exact fn_ret rfl rfl (.val rfl)
    simp [ee, decide_eq_true_eq, decide_eq_false_iff_not, Bool.and_eq_true, Bool.or_eq_true, Bool.not_eq_true', Bool.not_eq_false', Bool.and_eq_false_iff, Bool.or_eq_false_iff, bne_iff_ne, beq_iff_eq, beq_eq_false_iff_ne, bne_eq_false_iff_eq, ne_eq, Int.not_lt, Int.not_le, Decidable.not_not, hbl] at h6
    have hbf : batchF e (lastE d) ⟨be, bcs⟩ = chb := by unfold batchF; rw [if_neg (by dsimp only; omega), if_neg hnl, if_neg h6]; exact hchb
    rw [hbf] at hstep
    refine go rfl hX 0 (by conv => lhs; cbv) ?_ ?_
    · first | exact trivial | (simp only [Cd.ok, ee]; and_intros <;> first | omega | rfl | (simp <;> omega))
    refine on_pcall rfl rfl rfl P32b (closed1 hbc) ?_
    refine go rfl hX 0 (by conv => lhs; cbv) ?_ ?_
    · first | exact trivial | (simp only [Cd.ok, ee]; and_intros <;> first | omega | rfl | (simp <;> omega))
    refine on_cond rfl (fun h7 => ?_) (fun h7 => ?_)
    · simp [ee, decide_eq_true_eq, decide_eq_false_iff_not, Bool.and_eq_true, Bool.or_eq_true, Bool.not_eq_true', Bool.not_eq_false', Bool.and_eq_false_iff, Bool.or_eq_false_iff, bne_iff_ne, beq_iff_eq, beq_eq_false_iff_ne, bne_eq_false_iff_eq, ne_eq, Int.not_lt, Int.not_le, Decidable.not_not] at h7
      rw [if_pos h7] at hstep
      rw [hstep, if_pos h7]
      refine go rfl hX 0 (by conv => lhs; cbv) ?_ ?_
      · first | exact trivial | (simp only [Cd.ok, ee]; and_intros <;> first | omega | rfl | (simp <;> omega))
      refine loopP_ret ?_
      refine go rfl hX 0 (by conv => lhs; cbv) ?_ ?_
      · first | exact trivial | (simp only [Cd.ok, ee]; and_intros <;> first | omega | rfl | (simp <;> omega))
      exact fn_ret rfl rfl (.val rfl)
    · simp [ee, decide_eq_true_eq, decide_eq_false_iff_not, Bool.and_eq_true, Bool.or_eq_true, Bool.not_eq_true', Bool.not_eq_false', Bool.and_eq_false_iff, Bool.or_eq_false_iff, bne_iff_ne, beq_iff_eq, beq_eq_false_iff_ne, bne_eq_false_iff_eq, ne_eq, Int.not_lt, Int.not_le, Decidable.not_not] at h7
      rw [if_neg (by simpa using h7)] at hstep
      refine go rfl hX 0 (by conv => lhs; cbv) ?_ ?_
      · first | exact trivial | (simp only [Cd.ok, ee]; and_intros <;> first | omega | rfl | (simp <;> omega))
      refine loopP_next (d ++ [⟨be, bcs⟩], r, iAdd .i64 i 1) ⟨by simp [g1], ?_, by rw [hstep]; dsimp only; rw [lastE_snoc]⟩ (by simp) (ent_sub [.to 0, .gone] [some 0] ⟨⟨by simp, rfl⟩, trivial, trivial⟩ ⟨osrc_cells (b := 0) rfl rfl rfl ⟨.refl _, .cl hcc, .cl hcpp, trivial⟩, trivial⟩ ⟨.refl _, .refl _, .cl hcpp, .refl _, trivial⟩)
      simp only [List.length_append, List.length_cons, List.length_nil]; exact inc_w e_iAdd gi (by omega)
end Go.Am
end
section
set_option maxRecDepth 100000
namespace Go.Am
open Go.Proofs
/- slices.reverseRangeOrdered[int] -/
def Tryc63 : ACode :=
  (.seq (.reg [
    ⟨some 8, .mv (.t 1), [], none⟩,
    ⟨some 6, .mv (.t 8), [0, 0], none⟩])
  (.seq (.reg [
    ⟨some 9, .mv (.t 2), [], none⟩,
    ⟨some 10, .bin .sub (.t 9) (.c (.val (.int .i64 1))), [0], none⟩,
    ⟨some 7, .mv (.t 10), [1, 0, 1], none⟩])
  (.block 0
    (.loop
      (.seq (.seq (.reg [
        ⟨some 11, .mv (.t 6), [], none⟩,
        ⟨some 12, .mv (.t 7), [], none⟩,
        ⟨some 13, .bin .lss (.t 11) (.t 12), [0, 1], none⟩])
      (.cond (.t 13)
        .skip
        (.exit 0)))
      (.block 1
        (.seq (.draw [
          ⟨some 14, .mv (.t 0), [], none⟩,
          ⟨some 15, .mv (.t 6), [], none⟩,
          ⟨some 16, .mv (.t 0), [], none⟩,
          ⟨some 17, .mv (.t 7), [], none⟩,
          ⟨some 18, .mv (.t 0), [], none⟩,
          ⟨some 19, .mv (.t 7), [], none⟩,
          ⟨some 20, .ia 1 (.t 18) (.t 19), [4, 5], none⟩,
          ⟨some 21, .ld 1 false (.t 20), [6], none⟩,
          ⟨some 22, .mv (.t 0), [], none⟩,
          ⟨some 23, .mv (.t 6), [], none⟩,
          ⟨some 24, .ia 1 (.t 22) (.t 23), [8, 9], none⟩,
          ⟨some 25, .ld 1 false (.t 24), [10], none⟩,
          ⟨some 26, .ia 1 (.t 14) (.t 15), [0, 1, 0, 1, 4, 5, 6, 7, 11], none⟩,
          ⟨none, .st 1 (.t 26) (.t 21), [12, 7, 0, 1, 4, 5, 6, 7, 11], none⟩,
          ⟨some 27, .ia 1 (.t 16) (.t 17), [2, 3, 0, 1, 2, 3, 4, 5, 6, 7, 8, 9, 10, 11, 12, 13], none⟩,
          ⟨none, .st 1 (.t 27) (.t 25), [14, 11, 13, 0, 1, 2, 3, 4, 5, 6, 7, 8, 9, 10, 11, 12, 13], none⟩])
        (.seq (.reg [
          ⟨some 28, .mv (.t 6), [], none⟩,
          ⟨some 29, .bin .add (.t 28) (.c (.val (.int .i64 1))), [0], none⟩,
          ⟨some 6, .mv (.t 29), [1, 0, 1], none⟩])
        (.reg [
          ⟨some 30, .mv (.t 7), [], none⟩,
          ⟨some 31, .bin .sub (.t 30) (.c (.val (.int .i64 1))), [0], none⟩,
          ⟨some 7, .mv (.t 31), [1, 0, 1], none⟩])))))))))
theorem Tryp63 : (Try.f63.body.map (prep Try.prog 32)) = some Tryc63 := by kernel_rfl

/- slices.partialInsertionSortOrdered[int] -/
def Tryc64 : ACode :=
  (.seq (.reg [
    ⟨some 6, .mv (.c (.val (.bool false))), [], none⟩])
  (.seq (.reg [
    ⟨some 11, .mv (.t 1), [], none⟩,
    ⟨some 12, .bin .add (.t 11) (.c (.val (.int .i64 1))), [0], none⟩,
    ⟨some 7, .mv (.t 12), [1, 0, 1], none⟩])
  (.seq (.seq (.reg [
    ⟨some 8, .mv (.c (.val (.int .i64 0))), [], none⟩])
  (.block 0
    (.loop
      (.seq (.seq (.reg [
        ⟨some 13, .mv (.t 8), [], none⟩,
        ⟨some 14, .bin .lss (.t 13) (.c (.val (.int .i64 5))), [0], none⟩])
      (.cond (.t 14)
        .skip
        (.exit 0)))
      (.seq (.block 1
        (.seq (.block 2
          (.loop
            (.seq (.seq (.draw [
              ⟨some 17, .mv (.t 7), [], none⟩,
              ⟨some 18, .mv (.t 2), [], none⟩,
              ⟨some 19, .bin .lss (.t 17) (.t 18), [0, 1], none⟩,
              ⟨some 20, .mv (.t 19), [2], none⟩,
              ⟨some 21, .mv (.t 0), [3], some (20, true)⟩,
              ⟨some 22, .mv (.t 7), [3], some (20, true)⟩,
              ⟨some 23, .ia 1 (.t 21) (.t 22), [4, 5, 3], some (20, true)⟩,
              ⟨some 24, .ld 1 false (.t 23), [6, 3], some (20, true)⟩,
              ⟨some 25, .mv (.t 0), [3], some (20, true)⟩,
              ⟨some 26, .mv (.t 7), [3], some (20, true)⟩,
              ⟨some 27, .bin .sub (.t 26) (.c (.val (.int .i64 1))), [9, 3], some (20, true)⟩,
              ⟨some 28, .ia 1 (.t 25) (.t 27), [8, 10, 3], some (20, true)⟩,
              ⟨some 29, .ld 1 false (.t 28), [11, 3], some (20, true)⟩,
              ⟨some 30, .call 65 [(.t 24), (.t 29)], [7, 12, 3, 3], some (20, true)⟩,
              ⟨some 31, .un .not (.t 30), [13, 3], some (20, true)⟩,
              ⟨some 32, .pick (.t 20) (.t 31) (.c (.val (.bool false))), [3, 14], none⟩])
            (.cond (.t 32)
              .skip
              (.exit 2)))
            (.block 3
              (.reg [
                ⟨some 33, .mv (.t 7), [], none⟩,
                ⟨some 34, .bin .add (.t 33) (.c (.val (.int .i64 1))), [0], none⟩,
                ⟨some 7, .mv (.t 34), [1, 0, 1], none⟩])))))
        (.seq (.seq (.reg [
          ⟨some 35, .mv (.t 7), [], none⟩,
          ⟨some 36, .mv (.t 2), [], none⟩,
          ⟨some 37, .bin .eql (.t 35) (.t 36), [0, 1], none⟩])
        (.cond (.t 37)
          (.seq (.reg [
            ⟨some 6, .mv (.c (.val (.bool true))), [], none⟩])
          .ret)
          .skip))
        (.seq (.seq (.reg [
          ⟨some 38, .mv (.t 2), [], none⟩,
          ⟨some 39, .mv (.t 1), [], none⟩,
          ⟨some 40, .bin .sub (.t 38) (.t 39), [0, 1], none⟩,
          ⟨some 41, .bin .lss (.t 40) (.c (.val (.int .i64 50))), [2], none⟩])
        (.cond (.t 41)
          (.seq (.reg [
            ⟨some 6, .mv (.c (.val (.bool false))), [], none⟩])
          .ret)
          .skip))
        (.seq (.draw [
          ⟨some 42, .mv (.t 0), [], none⟩,
          ⟨some 43, .mv (.t 7), [], none⟩,
          ⟨some 44, .mv (.t 0), [], none⟩,
          ⟨some 45, .mv (.t 7), [], none⟩,
          ⟨some 46, .bin .sub (.t 45) (.c (.val (.int .i64 1))), [3], none⟩,
          ⟨some 47, .mv (.t 0), [], none⟩,
          ⟨some 48, .mv (.t 7), [], none⟩,
          ⟨some 49, .bin .sub (.t 48) (.c (.val (.int .i64 1))), [6], none⟩,
          ⟨some 50, .ia 1 (.t 47) (.t 49), [5, 7], none⟩,
          ⟨some 51, .ld 1 false (.t 50), [8], none⟩,
          ⟨some 52, .mv (.t 0), [], none⟩,
          ⟨some 53, .mv (.t 7), [], none⟩,
          ⟨some 54, .ia 1 (.t 52) (.t 53), [10, 11], none⟩,
          ⟨some 55, .ld 1 false (.t 54), [12], none⟩,
          ⟨some 56, .ia 1 (.t 42) (.t 43), [0, 1, 0, 1, 5, 6, 7, 8, 9, 13], none⟩,
          ⟨none, .st 1 (.t 56) (.t 51), [14, 9, 0, 1, 5, 6, 7, 8, 9, 13], none⟩,
          ⟨some 57, .ia 1 (.t 44) (.t 46), [2, 4, 0, 1, 2, 3, 4, 5, 6, 7, 8, 9, 10, 11, 12, 13, 14, 15], none⟩,
          ⟨none, .st 1 (.t 57) (.t 55), [16, 13, 15, 0, 1, 2, 3, 4, 5, 6, 7, 8, 9, 10, 11, 12, 13, 14, 15], none⟩])
        (.seq (.seq (.reg [
          ⟨some 58, .mv (.t 7), [], none⟩,
          ⟨some 59, .mv (.t 1), [], none⟩,
          ⟨some 60, .bin .sub (.t 58) (.t 59), [0, 1], none⟩,
          ⟨some 61, .bin .geq (.t 60) (.c (.val (.int .i64 2))), [2], none⟩])
        (.cond (.t 61)
          (.seq (.reg [
            ⟨some 62, .mv (.t 7), [], none⟩,
            ⟨some 63, .bin .sub (.t 62) (.c (.val (.int .i64 1))), [0], none⟩,
            ⟨some 9, .mv (.t 63), [1, 0, 1], none⟩])
          (.block 4
            (.loop
              (.seq (.seq (.reg [
                ⟨some 64, .mv (.t 9), [], none⟩,
                ⟨some 65, .bin .geq (.t 64) (.c (.val (.int .i64 1))), [0], none⟩])
              (.cond (.t 65)
                .skip
                (.exit 4)))
              (.seq (.block 5
                (.seq (.seq (.draw [
                  ⟨some 68, .mv (.t 0), [], none⟩,
                  ⟨some 69, .mv (.t 9), [], none⟩,
                  ⟨some 70, .ia 1 (.t 68) (.t 69), [0, 1], none⟩,
                  ⟨some 71, .ld 1 false (.t 70), [2], none⟩,
                  ⟨some 72, .mv (.t 0), [], none⟩,
                  ⟨some 73, .mv (.t 9), [], none⟩,
                  ⟨some 74, .bin .sub (.t 73) (.c (.val (.int .i64 1))), [5], none⟩,
                  ⟨some 75, .ia 1 (.t 72) (.t 74), [4, 6], none⟩,
                  ⟨some 76, .ld 1 false (.t 75), [7], none⟩,
                  ⟨some 77, .call 65 [(.t 71), (.t 76)], [3, 8], none⟩,
                  ⟨some 78, .un .not (.t 77), [9], none⟩])
                (.cond (.t 78)
                  (.exit 4)
                  .skip))
                (.draw [
                  ⟨some 79, .mv (.t 0), [], none⟩,
                  ⟨some 80, .mv (.t 9), [], none⟩,
                  ⟨some 81, .mv (.t 0), [], none⟩,
                  ⟨some 82, .mv (.t 9), [], none⟩,
                  ⟨some 83, .bin .sub (.t 82) (.c (.val (.int .i64 1))), [3], none⟩,
                  ⟨some 84, .mv (.t 0), [], none⟩,
                  ⟨some 85, .mv (.t 9), [], none⟩,
                  ⟨some 86, .bin .sub (.t 85) (.c (.val (.int .i64 1))), [6], none⟩,
                  ⟨some 87, .ia 1 (.t 84) (.t 86), [5, 7], none⟩,
                  ⟨some 88, .ld 1 false (.t 87), [8], none⟩,
                  ⟨some 89, .mv (.t 0), [], none⟩,
                  ⟨some 90, .mv (.t 9), [], none⟩,
                  ⟨some 91, .ia 1 (.t 89) (.t 90), [10, 11], none⟩,
                  ⟨some 92, .ld 1 false (.t 91), [12], none⟩,
                  ⟨some 93, .ia 1 (.t 79) (.t 80), [0, 1, 0, 1, 5, 6, 7, 8, 9, 13], none⟩,
                  ⟨none, .st 1 (.t 93) (.t 88), [14, 9, 0, 1, 5, 6, 7, 8, 9, 13], none⟩,
                  ⟨some 94, .ia 1 (.t 81) (.t 83), [2, 4, 0, 1, 2, 3, 4, 5, 6, 7, 8, 9, 10, 11, 12, 13, 14, 15], none⟩,
                  ⟨none, .st 1 (.t 94) (.t 92), [16, 13, 15, 0, 1, 2, 3, 4, 5, 6, 7, 8, 9, 10, 11, 12, 13, 14, 15], none⟩])))
              (.reg [
                ⟨some 66, .mv (.t 9), [], none⟩,
                ⟨some 67, .bin .sub (.t 66) (.c (.val (.int .i64 1))), [0], none⟩,
                ⟨some 9, .mv (.t 67), [1, 0, 1], none⟩]))))))
          .skip))
        (.seq (.reg [
          ⟨some 95, .mv (.t 2), [], none⟩,
          ⟨some 96, .mv (.t 7), [], none⟩,
          ⟨some 97, .bin .sub (.t 95) (.t 96), [0, 1], none⟩,
          ⟨some 98, .bin .geq (.t 97) (.c (.val (.int .i64 2))), [2], none⟩])
        (.cond (.t 98)
          (.seq (.reg [
            ⟨some 99, .mv (.t 7), [], none⟩,
            ⟨some 100, .bin .add (.t 99) (.c (.val (.int .i64 1))), [0], none⟩,
            ⟨some 10, .mv (.t 100), [1, 0, 1], none⟩])
          (.block 6
            (.loop
              (.seq (.seq (.reg [
                ⟨some 101, .mv (.t 10), [], none⟩,
                ⟨some 102, .mv (.t 2), [], none⟩,
                ⟨some 103, .bin .lss (.t 101) (.t 102), [0, 1], none⟩])
              (.cond (.t 103)
                .skip
                (.exit 6)))
              (.seq (.block 7
                (.seq (.seq (.draw [
                  ⟨some 106, .mv (.t 0), [], none⟩,
                  ⟨some 107, .mv (.t 10), [], none⟩,
                  ⟨some 108, .ia 1 (.t 106) (.t 107), [0, 1], none⟩,
                  ⟨some 109, .ld 1 false (.t 108), [2], none⟩,
                  ⟨some 110, .mv (.t 0), [], none⟩,
                  ⟨some 111, .mv (.t 10), [], none⟩,
                  ⟨some 112, .bin .sub (.t 111) (.c (.val (.int .i64 1))), [5], none⟩,
                  ⟨some 113, .ia 1 (.t 110) (.t 112), [4, 6], none⟩,
                  ⟨some 114, .ld 1 false (.t 113), [7], none⟩,
                  ⟨some 115, .call 65 [(.t 109), (.t 114)], [3, 8], none⟩,
                  ⟨some 116, .un .not (.t 115), [9], none⟩])
                (.cond (.t 116)
                  (.exit 6)
                  .skip))
                (.draw [
                  ⟨some 117, .mv (.t 0), [], none⟩,
                  ⟨some 118, .mv (.t 10), [], none⟩,
                  ⟨some 119, .mv (.t 0), [], none⟩,
                  ⟨some 120, .mv (.t 10), [], none⟩,
                  ⟨some 121, .bin .sub (.t 120) (.c (.val (.int .i64 1))), [3], none⟩,
                  ⟨some 122, .mv (.t 0), [], none⟩,
                  ⟨some 123, .mv (.t 10), [], none⟩,
                  ⟨some 124, .bin .sub (.t 123) (.c (.val (.int .i64 1))), [6], none⟩,
                  ⟨some 125, .ia 1 (.t 122) (.t 124), [5, 7], none⟩,
                  ⟨some 126, .ld 1 false (.t 125), [8], none⟩,
                  ⟨some 127, .mv (.t 0), [], none⟩,
                  ⟨some 128, .mv (.t 10), [], none⟩,
                  ⟨some 129, .ia 1 (.t 127) (.t 128), [10, 11], none⟩,
                  ⟨some 130, .ld 1 false (.t 129), [12], none⟩,
                  ⟨some 131, .ia 1 (.t 117) (.t 118), [0, 1, 0, 1, 5, 6, 7, 8, 9, 13], none⟩,
                  ⟨none, .st 1 (.t 131) (.t 126), [14, 9, 0, 1, 5, 6, 7, 8, 9, 13], none⟩,
                  ⟨some 132, .ia 1 (.t 119) (.t 121), [2, 4, 0, 1, 2, 3, 4, 5, 6, 7, 8, 9, 10, 11, 12, 13, 14, 15], none⟩,
                  ⟨none, .st 1 (.t 132) (.t 130), [16, 13, 15, 0, 1, 2, 3, 4, 5, 6, 7, 8, 9, 10, 11, 12, 13, 14, 15], none⟩])))
              (.reg [
                ⟨some 104, .mv (.t 10), [], none⟩,
                ⟨some 105, .bin .add (.t 104) (.c (.val (.int .i64 1))), [0], none⟩,
                ⟨some 10, .mv (.t 105), [1, 0, 1], none⟩]))))))
          .skip))))))))
      (.reg [
        ⟨some 15, .mv (.t 8), [], none⟩,
        ⟨some 16, .bin .add (.t 15) (.c (.val (.int .i64 1))), [0], none⟩,
        ⟨some 8, .mv (.t 16), [1, 0, 1], none⟩]))))))
  (.seq (.reg [
    ⟨some 6, .mv (.c (.val (.bool false))), [], none⟩])
  .ret))))
theorem Tryp64 : (Try.f64.body.map (prep Try.prog 133)) = some Tryc64 := by kernel_rfl

/- cmp.Less[int] -/
def Tryc65 : ACode :=
  (.seq (.reg [
    ⟨some 4, .mv (.c (.val (.bool false))), [], none⟩])
  (.seq (.reg [
    ⟨some 5, .mv (.t 0), [], none⟩,
    ⟨some 6, .call 70 [(.t 5)], [0], none⟩,
    ⟨some 7, .mv (.t 6), [1, 1], none⟩,
    ⟨some 8, .mv (.t 1), [2], some (7, true)⟩,
    ⟨some 9, .call 70 [(.t 8)], [3, 2, 2], some (7, true)⟩,
    ⟨some 10, .un .not (.t 9), [4, 2], some (7, true)⟩,
    ⟨some 11, .pick (.t 7) (.t 10) (.c (.val (.bool false))), [2, 5], none⟩,
    ⟨some 12, .mv (.t 11), [6, 4], none⟩,
    ⟨some 13, .mv (.t 0), [7], some (12, false)⟩,
    ⟨some 14, .mv (.t 1), [7], some (12, false)⟩,
    ⟨some 15, .bin .lss (.t 13) (.t 14), [8, 9, 7], some (12, false)⟩,
    ⟨some 16, .pick (.t 12) (.c (.val (.bool true))) (.t 15), [7, 10], none⟩,
    ⟨some 4, .mv (.t 16), [11, 7, 0, 1, 2, 3, 4, 5, 6, 7, 8, 9, 10, 11], none⟩])
  .ret))
theorem Tryp65 : (Try.f65.body.map (prep Try.prog 17)) = some Tryc65 := by kernel_rfl

/- slices.partitionEqualOrdered[int] -/
def Tryc66 : ACode :=
  (.seq (.reg [
    ⟨some 8, .mv (.c (.val (.int .i64 0))), [], none⟩])
  (.seq (.draw [
    ⟨some 11, .mv (.t 0), [], none⟩,
    ⟨some 12, .mv (.t 1), [], none⟩,
    ⟨some 13, .mv (.t 0), [], none⟩,
    ⟨some 14, .mv (.t 3), [], none⟩,
    ⟨some 15, .mv (.t 0), [], none⟩,
    ⟨some 16, .mv (.t 3), [], none⟩,
    ⟨some 17, .ia 1 (.t 15) (.t 16), [4, 5], none⟩,
    ⟨some 18, .ld 1 false (.t 17), [6], none⟩,
    ⟨some 19, .mv (.t 0), [], none⟩,
    ⟨some 20, .mv (.t 1), [], none⟩,
    ⟨some 21, .ia 1 (.t 19) (.t 20), [8, 9], none⟩,
    ⟨some 22, .ld 1 false (.t 21), [10], none⟩,
    ⟨some 23, .ia 1 (.t 11) (.t 12), [0, 1, 0, 1, 4, 5, 6, 7, 11], none⟩,
    ⟨none, .st 1 (.t 23) (.t 18), [12, 7, 0, 1, 4, 5, 6, 7, 11], none⟩,
    ⟨some 24, .ia 1 (.t 13) (.t 14), [2, 3, 0, 1, 2, 3, 4, 5, 6, 7, 8, 9, 10, 11, 12, 13], none⟩,
    ⟨none, .st 1 (.t 24) (.t 22), [14, 11, 13, 0, 1, 2, 3, 4, 5, 6, 7, 8, 9, 10, 11, 12, 13], none⟩])
  (.seq (.reg [
    ⟨some 25, .mv (.t 1), [], none⟩,
    ⟨some 26, .bin .add (.t 25) (.c (.val (.int .i64 1))), [0], none⟩,
    ⟨some 27, .mv (.t 2), [], none⟩,
    ⟨some 28, .bin .sub (.t 27) (.c (.val (.int .i64 1))), [2], none⟩,
    ⟨some 9, .mv (.t 26), [1, 0, 1], none⟩,
    ⟨some 10, .mv (.t 28), [3, 4, 0, 1, 2, 3, 4], none⟩])
  (.seq (.block 0
    (.loop
      (.block 1
        (.seq (.block 2
          (.loop
            (.seq (.seq (.draw [
              ⟨some 29, .mv (.t 9), [], none⟩,
              ⟨some 30, .mv (.t 10), [], none⟩,
              ⟨some 31, .bin .leq (.t 29) (.t 30), [0, 1], none⟩,
              ⟨some 32, .mv (.t 31), [2], none⟩,
              ⟨some 33, .mv (.t 0), [3], some (32, true)⟩,
              ⟨some 34, .mv (.t 1), [3], some (32, true)⟩,
              ⟨some 35, .ia 1 (.t 33) (.t 34), [4, 5, 3], some (32, true)⟩,
              ⟨some 36, .ld 1 false (.t 35), [6, 3], some (32, true)⟩,
              ⟨some 37, .mv (.t 0), [3], some (32, true)⟩,
              ⟨some 38, .mv (.t 9), [3], some (32, true)⟩,
              ⟨some 39, .ia 1 (.t 37) (.t 38), [8, 9, 3], some (32, true)⟩,
              ⟨some 40, .ld 1 false (.t 39), [10, 3], some (32, true)⟩,
              ⟨some 41, .call 65 [(.t 36), (.t 40)], [7, 11, 3, 3], some (32, true)⟩,
              ⟨some 42, .un .not (.t 41), [12, 3], some (32, true)⟩,
              ⟨some 43, .pick (.t 32) (.t 42) (.c (.val (.bool false))), [3, 13], none⟩])
            (.cond (.t 43)
              .skip
              (.exit 2)))
            (.block 3
              (.reg [
                ⟨some 44, .mv (.t 9), [], none⟩,
                ⟨some 45, .bin .add (.t 44) (.c (.val (.int .i64 1))), [0], none⟩,
                ⟨some 9, .mv (.t 45), [1, 0, 1], none⟩])))))
        (.seq (.block 4
          (.loop
            (.seq (.seq (.draw [
              ⟨some 46, .mv (.t 9), [], none⟩,
              ⟨some 47, .mv (.t 10), [], none⟩,
              ⟨some 48, .bin .leq (.t 46) (.t 47), [0, 1], none⟩,
              ⟨some 49, .mv (.t 48), [2], none⟩,
              ⟨some 50, .mv (.t 0), [3], some (49, true)⟩,
              ⟨some 51, .mv (.t 1), [3], some (49, true)⟩,
              ⟨some 52, .ia 1 (.t 50) (.t 51), [4, 5, 3], some (49, true)⟩,
              ⟨some 53, .ld 1 false (.t 52), [6, 3], some (49, true)⟩,
              ⟨some 54, .mv (.t 0), [3], some (49, true)⟩,
              ⟨some 55, .mv (.t 10), [3], some (49, true)⟩,
              ⟨some 56, .ia 1 (.t 54) (.t 55), [8, 9, 3], some (49, true)⟩,
              ⟨some 57, .ld 1 false (.t 56), [10, 3], some (49, true)⟩,
              ⟨some 58, .call 65 [(.t 53), (.t 57)], [7, 11, 3, 3], some (49, true)⟩,
              ⟨some 59, .pick (.t 49) (.t 58) (.c (.val (.bool false))), [3, 12], none⟩])
            (.cond (.t 59)
              .skip
              (.exit 4)))
            (.block 5
              (.reg [
                ⟨some 60, .mv (.t 10), [], none⟩,
                ⟨some 61, .bin .sub (.t 60) (.c (.val (.int .i64 1))), [0], none⟩,
                ⟨some 10, .mv (.t 61), [1, 0, 1], none⟩])))))
        (.seq (.seq (.reg [
          ⟨some 62, .mv (.t 9), [], none⟩,
          ⟨some 63, .mv (.t 10), [], none⟩,
          ⟨some 64, .bin .gtr (.t 62) (.t 63), [0, 1], none⟩])
        (.cond (.t 64)
          (.exit 0)
          .skip))
        (.seq (.draw [
          ⟨some 65, .mv (.t 0), [], none⟩,
          ⟨some 66, .mv (.t 9), [], none⟩,
          ⟨some 67, .mv (.t 0), [], none⟩,
          ⟨some 68, .mv (.t 10), [], none⟩,
          ⟨some 69, .mv (.t 0), [], none⟩,
          ⟨some 70, .mv (.t 10), [], none⟩,
          ⟨some 71, .ia 1 (.t 69) (.t 70), [4, 5], none⟩,
          ⟨some 72, .ld 1 false (.t 71), [6], none⟩,
          ⟨some 73, .mv (.t 0), [], none⟩,
          ⟨some 74, .mv (.t 9), [], none⟩,
          ⟨some 75, .ia 1 (.t 73) (.t 74), [8, 9], none⟩,
          ⟨some 76, .ld 1 false (.t 75), [10], none⟩,
          ⟨some 77, .ia 1 (.t 65) (.t 66), [0, 1, 0, 1, 4, 5, 6, 7, 11], none⟩,
          ⟨none, .st 1 (.t 77) (.t 72), [12, 7, 0, 1, 4, 5, 6, 7, 11], none⟩,
          ⟨some 78, .ia 1 (.t 67) (.t 68), [2, 3, 0, 1, 2, 3, 4, 5, 6, 7, 8, 9, 10, 11, 12, 13], none⟩,
          ⟨none, .st 1 (.t 78) (.t 76), [14, 11, 13, 0, 1, 2, 3, 4, 5, 6, 7, 8, 9, 10, 11, 12, 13], none⟩])
        (.seq (.reg [
          ⟨some 79, .mv (.t 9), [], none⟩,
          ⟨some 80, .bin .add (.t 79) (.c (.val (.int .i64 1))), [0], none⟩,
          ⟨some 9, .mv (.t 80), [1, 0, 1], none⟩])
        (.reg [
          ⟨some 81, .mv (.t 10), [], none⟩,
          ⟨some 82, .bin .sub (.t 81) (.c (.val (.int .i64 1))), [0], none⟩,
          ⟨some 10, .mv (.t 82), [1, 0, 1], none⟩])))))))))
  (.seq (.reg [
    ⟨some 83, .mv (.t 9), [], none⟩,
    ⟨some 8, .mv (.t 83), [0, 0], none⟩])
  .ret)))))
theorem Tryp66 : (Try.f66.body.map (prep Try.prog 84)) = some Tryc66 := by kernel_rfl

/- slices.partitionOrdered[int] -/
def Tryc67 : ACode :=
  (.seq (.reg [
    ⟨some 8, .mv (.c (.val (.int .i64 0))), [], none⟩,
    ⟨some 9, .mv (.c (.val (.bool false))), [0], none⟩])
  (.seq (.draw [
    ⟨some 12, .mv (.t 0), [], none⟩,
    ⟨some 13, .mv (.t 1), [], none⟩,
    ⟨some 14, .mv (.t 0), [], none⟩,
    ⟨some 15, .mv (.t 3), [], none⟩,
    ⟨some 16, .mv (.t 0), [], none⟩,
    ⟨some 17, .mv (.t 3), [], none⟩,
    ⟨some 18, .ia 1 (.t 16) (.t 17), [4, 5], none⟩,
    ⟨some 19, .ld 1 false (.t 18), [6], none⟩,
    ⟨some 20, .mv (.t 0), [], none⟩,
    ⟨some 21, .mv (.t 1), [], none⟩,
    ⟨some 22, .ia 1 (.t 20) (.t 21), [8, 9], none⟩,
    ⟨some 23, .ld 1 false (.t 22), [10], none⟩,
    ⟨some 24, .ia 1 (.t 12) (.t 13), [0, 1, 0, 1, 4, 5, 6, 7, 11], none⟩,
    ⟨none, .st 1 (.t 24) (.t 19), [12, 7, 0, 1, 4, 5, 6, 7, 11], none⟩,
    ⟨some 25, .ia 1 (.t 14) (.t 15), [2, 3, 0, 1, 2, 3, 4, 5, 6, 7, 8, 9, 10, 11, 12, 13], none⟩,
    ⟨none, .st 1 (.t 25) (.t 23), [14, 11, 13, 0, 1, 2, 3, 4, 5, 6, 7, 8, 9, 10, 11, 12, 13], none⟩])
  (.seq (.reg [
    ⟨some 26, .mv (.t 1), [], none⟩,
    ⟨some 27, .bin .add (.t 26) (.c (.val (.int .i64 1))), [0], none⟩,
    ⟨some 28, .mv (.t 2), [], none⟩,
    ⟨some 29, .bin .sub (.t 28) (.c (.val (.int .i64 1))), [2], none⟩,
    ⟨some 10, .mv (.t 27), [1, 0, 1], none⟩,
    ⟨some 11, .mv (.t 29), [3, 4, 0, 1, 2, 3, 4], none⟩])
  (.seq (.block 0
    (.loop
      (.seq (.seq (.draw [
        ⟨some 30, .mv (.t 10), [], none⟩,
        ⟨some 31, .mv (.t 11), [], none⟩,
        ⟨some 32, .bin .leq (.t 30) (.t 31), [0, 1], none⟩,
        ⟨some 33, .mv (.t 32), [2], none⟩,
        ⟨some 34, .mv (.t 0), [3], some (33, true)⟩,
        ⟨some 35, .mv (.t 10), [3], some (33, true)⟩,
        ⟨some 36, .ia 1 (.t 34) (.t 35), [4, 5, 3], some (33, true)⟩,
        ⟨some 37, .ld 1 false (.t 36), [6, 3], some (33, true)⟩,
        ⟨some 38, .mv (.t 0), [3], some (33, true)⟩,
        ⟨some 39, .mv (.t 1), [3], some (33, true)⟩,
        ⟨some 40, .ia 1 (.t 38) (.t 39), [8, 9, 3], some (33, true)⟩,
        ⟨some 41, .ld 1 false (.t 40), [10, 3], some (33, true)⟩,
        ⟨some 42, .call 65 [(.t 37), (.t 41)], [7, 11, 3, 3], some (33, true)⟩,
        ⟨some 43, .pick (.t 33) (.t 42) (.c (.val (.bool false))), [3, 12], none⟩])
      (.cond (.t 43)
        .skip
        (.exit 0)))
      (.block 1
        (.reg [
          ⟨some 44, .mv (.t 10), [], none⟩,
          ⟨some 45, .bin .add (.t 44) (.c (.val (.int .i64 1))), [0], none⟩,
          ⟨some 10, .mv (.t 45), [1, 0, 1], none⟩])))))
  (.seq (.block 2
    (.loop
      (.seq (.seq (.draw [
        ⟨some 46, .mv (.t 10), [], none⟩,
        ⟨some 47, .mv (.t 11), [], none⟩,
        ⟨some 48, .bin .leq (.t 46) (.t 47), [0, 1], none⟩,
        ⟨some 49, .mv (.t 48), [2], none⟩,
        ⟨some 50, .mv (.t 0), [3], some (49, true)⟩,
        ⟨some 51, .mv (.t 11), [3], some (49, true)⟩,
        ⟨some 52, .ia 1 (.t 50) (.t 51), [4, 5, 3], some (49, true)⟩,
        ⟨some 53, .ld 1 false (.t 52), [6, 3], some (49, true)⟩,
        ⟨some 54, .mv (.t 0), [3], some (49, true)⟩,
        ⟨some 55, .mv (.t 1), [3], some (49, true)⟩,
        ⟨some 56, .ia 1 (.t 54) (.t 55), [8, 9, 3], some (49, true)⟩,
        ⟨some 57, .ld 1 false (.t 56), [10, 3], some (49, true)⟩,
        ⟨some 58, .call 65 [(.t 53), (.t 57)], [7, 11, 3, 3], some (49, true)⟩,
        ⟨some 59, .un .not (.t 58), [12, 3], some (49, true)⟩,
        ⟨some 60, .pick (.t 49) (.t 59) (.c (.val (.bool false))), [3, 13], none⟩])
      (.cond (.t 60)
        .skip
        (.exit 2)))
      (.block 3
        (.reg [
          ⟨some 61, .mv (.t 11), [], none⟩,
          ⟨some 62, .bin .sub (.t 61) (.c (.val (.int .i64 1))), [0], none⟩,
          ⟨some 11, .mv (.t 62), [1, 0, 1], none⟩])))))
  (.seq (.seq (.reg [
    ⟨some 63, .mv (.t 10), [], none⟩,
    ⟨some 64, .mv (.t 11), [], none⟩,
    ⟨some 65, .bin .gtr (.t 63) (.t 64), [0, 1], none⟩])
  (.cond (.t 65)
    (.seq (.draw [
      ⟨some 66, .mv (.t 0), [], none⟩,
      ⟨some 67, .mv (.t 11), [], none⟩,
      ⟨some 68, .mv (.t 0), [], none⟩,
      ⟨some 69, .mv (.t 1), [], none⟩,
      ⟨some 70, .mv (.t 0), [], none⟩,
      ⟨some 71, .mv (.t 1), [], none⟩,
      ⟨some 72, .ia 1 (.t 70) (.t 71), [4, 5], none⟩,
      ⟨some 73, .ld 1 false (.t 72), [6], none⟩,
      ⟨some 74, .mv (.t 0), [], none⟩,
      ⟨some 75, .mv (.t 11), [], none⟩,
      ⟨some 76, .ia 1 (.t 74) (.t 75), [8, 9], none⟩,
      ⟨some 77, .ld 1 false (.t 76), [10], none⟩,
      ⟨some 78, .ia 1 (.t 66) (.t 67), [0, 1, 0, 1, 4, 5, 6, 7, 11], none⟩,
      ⟨none, .st 1 (.t 78) (.t 73), [12, 7, 0, 1, 4, 5, 6, 7, 11], none⟩,
      ⟨some 79, .ia 1 (.t 68) (.t 69), [2, 3, 0, 1, 2, 3, 4, 5, 6, 7, 8, 9, 10, 11, 12, 13], none⟩,
      ⟨none, .st 1 (.t 79) (.t 77), [14, 11, 13, 0, 1, 2, 3, 4, 5, 6, 7, 8, 9, 10, 11, 12, 13], none⟩])
    (.seq (.reg [
      ⟨some 80, .mv (.t 11), [], none⟩,
      ⟨some 8, .mv (.t 80), [0, 0], none⟩,
      ⟨some 9, .mv (.c (.val (.bool true))), [1, 0, 1], none⟩])
    .ret))
    .skip))
  (.seq (.draw [
    ⟨some 81, .mv (.t 0), [], none⟩,
    ⟨some 82, .mv (.t 10), [], none⟩,
    ⟨some 83, .mv (.t 0), [], none⟩,
    ⟨some 84, .mv (.t 11), [], none⟩,
    ⟨some 85, .mv (.t 0), [], none⟩,
    ⟨some 86, .mv (.t 11), [], none⟩,
    ⟨some 87, .ia 1 (.t 85) (.t 86), [4, 5], none⟩,
    ⟨some 88, .ld 1 false (.t 87), [6], none⟩,
    ⟨some 89, .mv (.t 0), [], none⟩,
    ⟨some 90, .mv (.t 10), [], none⟩,
    ⟨some 91, .ia 1 (.t 89) (.t 90), [8, 9], none⟩,
    ⟨some 92, .ld 1 false (.t 91), [10], none⟩,
    ⟨some 93, .ia 1 (.t 81) (.t 82), [0, 1, 0, 1, 4, 5, 6, 7, 11], none⟩,
    ⟨none, .st 1 (.t 93) (.t 88), [12, 7, 0, 1, 4, 5, 6, 7, 11], none⟩,
    ⟨some 94, .ia 1 (.t 83) (.t 84), [2, 3, 0, 1, 2, 3, 4, 5, 6, 7, 8, 9, 10, 11, 12, 13], none⟩,
    ⟨none, .st 1 (.t 94) (.t 92), [14, 11, 13, 0, 1, 2, 3, 4, 5, 6, 7, 8, 9, 10, 11, 12, 13], none⟩])
  (.seq (.reg [
    ⟨some 95, .mv (.t 10), [], none⟩,
    ⟨some 96, .bin .add (.t 95) (.c (.val (.int .i64 1))), [0], none⟩,
    ⟨some 10, .mv (.t 96), [1, 0, 1], none⟩])
  (.seq (.reg [
    ⟨some 97, .mv (.t 11), [], none⟩,
    ⟨some 98, .bin .sub (.t 97) (.c (.val (.int .i64 1))), [0], none⟩,
    ⟨some 11, .mv (.t 98), [1, 0, 1], none⟩])
  (.seq (.block 4
    (.loop
      (.block 5
        (.seq (.block 6
          (.loop
            (.seq (.seq (.draw [
              ⟨some 99, .mv (.t 10), [], none⟩,
              ⟨some 100, .mv (.t 11), [], none⟩,
              ⟨some 101, .bin .leq (.t 99) (.t 100), [0, 1], none⟩,
              ⟨some 102, .mv (.t 101), [2], none⟩,
              ⟨some 103, .mv (.t 0), [3], some (102, true)⟩,
              ⟨some 104, .mv (.t 10), [3], some (102, true)⟩,
              ⟨some 105, .ia 1 (.t 103) (.t 104), [4, 5, 3], some (102, true)⟩,
              ⟨some 106, .ld 1 false (.t 105), [6, 3], some (102, true)⟩,
              ⟨some 107, .mv (.t 0), [3], some (102, true)⟩,
              ⟨some 108, .mv (.t 1), [3], some (102, true)⟩,
              ⟨some 109, .ia 1 (.t 107) (.t 108), [8, 9, 3], some (102, true)⟩,
              ⟨some 110, .ld 1 false (.t 109), [10, 3], some (102, true)⟩,
              ⟨some 111, .call 65 [(.t 106), (.t 110)], [7, 11, 3, 3], some (102, true)⟩,
              ⟨some 112, .pick (.t 102) (.t 111) (.c (.val (.bool false))), [3, 12], none⟩])
            (.cond (.t 112)
              .skip
              (.exit 6)))
            (.block 7
              (.reg [
                ⟨some 113, .mv (.t 10), [], none⟩,
                ⟨some 114, .bin .add (.t 113) (.c (.val (.int .i64 1))), [0], none⟩,
                ⟨some 10, .mv (.t 114), [1, 0, 1], none⟩])))))
        (.seq (.block 8
          (.loop
            (.seq (.seq (.draw [
              ⟨some 115, .mv (.t 10), [], none⟩,
              ⟨some 116, .mv (.t 11), [], none⟩,
              ⟨some 117, .bin .leq (.t 115) (.t 116), [0, 1], none⟩,
              ⟨some 118, .mv (.t 117), [2], none⟩,
              ⟨some 119, .mv (.t 0), [3], some (118, true)⟩,
              ⟨some 120, .mv (.t 11), [3], some (118, true)⟩,
              ⟨some 121, .ia 1 (.t 119) (.t 120), [4, 5, 3], some (118, true)⟩,
              ⟨some 122, .ld 1 false (.t 121), [6, 3], some (118, true)⟩,
              ⟨some 123, .mv (.t 0), [3], some (118, true)⟩,
              ⟨some 124, .mv (.t 1), [3], some (118, true)⟩,
              ⟨some 125, .ia 1 (.t 123) (.t 124), [8, 9, 3], some (118, true)⟩,
              ⟨some 126, .ld 1 false (.t 125), [10, 3], some (118, true)⟩,
              ⟨some 127, .call 65 [(.t 122), (.t 126)], [7, 11, 3, 3], some (118, true)⟩,
              ⟨some 128, .un .not (.t 127), [12, 3], some (118, true)⟩,
              ⟨some 129, .pick (.t 118) (.t 128) (.c (.val (.bool false))), [3, 13], none⟩])
            (.cond (.t 129)
              .skip
              (.exit 8)))
            (.block 9
              (.reg [
                ⟨some 130, .mv (.t 11), [], none⟩,
                ⟨some 131, .bin .sub (.t 130) (.c (.val (.int .i64 1))), [0], none⟩,
                ⟨some 11, .mv (.t 131), [1, 0, 1], none⟩])))))
        (.seq (.seq (.reg [
          ⟨some 132, .mv (.t 10), [], none⟩,
          ⟨some 133, .mv (.t 11), [], none⟩,
          ⟨some 134, .bin .gtr (.t 132) (.t 133), [0, 1], none⟩])
        (.cond (.t 134)
          (.exit 4)
          .skip))
        (.seq (.draw [
          ⟨some 135, .mv (.t 0), [], none⟩,
          ⟨some 136, .mv (.t 10), [], none⟩,
          ⟨some 137, .mv (.t 0), [], none⟩,
          ⟨some 138, .mv (.t 11), [], none⟩,
          ⟨some 139, .mv (.t 0), [], none⟩,
          ⟨some 140, .mv (.t 11), [], none⟩,
          ⟨some 141, .ia 1 (.t 139) (.t 140), [4, 5], none⟩,
          ⟨some 142, .ld 1 false (.t 141), [6], none⟩,
          ⟨some 143, .mv (.t 0), [], none⟩,
          ⟨some 144, .mv (.t 10), [], none⟩,
          ⟨some 145, .ia 1 (.t 143) (.t 144), [8, 9], none⟩,
          ⟨some 146, .ld 1 false (.t 145), [10], none⟩,
          ⟨some 147, .ia 1 (.t 135) (.t 136), [0, 1, 0, 1, 4, 5, 6, 7, 11], none⟩,
          ⟨none, .st 1 (.t 147) (.t 142), [12, 7, 0, 1, 4, 5, 6, 7, 11], none⟩,
          ⟨some 148, .ia 1 (.t 137) (.t 138), [2, 3, 0, 1, 2, 3, 4, 5, 6, 7, 8, 9, 10, 11, 12, 13], none⟩,
          ⟨none, .st 1 (.t 148) (.t 146), [14, 11, 13, 0, 1, 2, 3, 4, 5, 6, 7, 8, 9, 10, 11, 12, 13], none⟩])
        (.seq (.reg [
          ⟨some 149, .mv (.t 10), [], none⟩,
          ⟨some 150, .bin .add (.t 149) (.c (.val (.int .i64 1))), [0], none⟩,
          ⟨some 10, .mv (.t 150), [1, 0, 1], none⟩])
        (.reg [
          ⟨some 151, .mv (.t 11), [], none⟩,
          ⟨some 152, .bin .sub (.t 151) (.c (.val (.int .i64 1))), [0], none⟩,
          ⟨some 11, .mv (.t 152), [1, 0, 1], none⟩])))))))))
  (.seq (.draw [
    ⟨some 153, .mv (.t 0), [], none⟩,
    ⟨some 154, .mv (.t 11), [], none⟩,
    ⟨some 155, .mv (.t 0), [], none⟩,
    ⟨some 156, .mv (.t 1), [], none⟩,
    ⟨some 157, .mv (.t 0), [], none⟩,
    ⟨some 158, .mv (.t 1), [], none⟩,
    ⟨some 159, .ia 1 (.t 157) (.t 158), [4, 5], none⟩,
    ⟨some 160, .ld 1 false (.t 159), [6], none⟩,
    ⟨some 161, .mv (.t 0), [], none⟩,
    ⟨some 162, .mv (.t 11), [], none⟩,
    ⟨some 163, .ia 1 (.t 161) (.t 162), [8, 9], none⟩,
    ⟨some 164, .ld 1 false (.t 163), [10], none⟩,
    ⟨some 165, .ia 1 (.t 153) (.t 154), [0, 1, 0, 1, 4, 5, 6, 7, 11], none⟩,
    ⟨none, .st 1 (.t 165) (.t 160), [12, 7, 0, 1, 4, 5, 6, 7, 11], none⟩,
    ⟨some 166, .ia 1 (.t 155) (.t 156), [2, 3, 0, 1, 2, 3, 4, 5, 6, 7, 8, 9, 10, 11, 12, 13], none⟩,
    ⟨none, .st 1 (.t 166) (.t 164), [14, 11, 13, 0, 1, 2, 3, 4, 5, 6, 7, 8, 9, 10, 11, 12, 13], none⟩])
  (.seq (.reg [
    ⟨some 167, .mv (.t 11), [], none⟩,
    ⟨some 8, .mv (.t 167), [0, 0], none⟩,
    ⟨some 9, .mv (.c (.val (.bool false))), [1, 0, 1], none⟩])
  .ret))))))))))))
theorem Tryp67 : (Try.f67.body.map (prep Try.prog 168)) = some Tryc67 := by kernel_rfl

/- math/bits.Len32 -/
def Tryc68 : ACode :=
  (.seq (.reg [
    ⟨some 2, .mv (.c (.val (.int .i64 0))), [], none⟩])
  (.seq (.seq (.reg [
    ⟨some 3, .mv (.t 0), [], none⟩,
    ⟨some 4, .bin .geq (.t 3) (.c (.val (.int .u32 65536))), [0], none⟩])
  (.cond (.t 4)
    (.seq (.reg [
      ⟨some 5, .mv (.t 0), [], none⟩,
      ⟨some 6, .bin .shr (.t 5) (.c (.val (.int .u64 16))), [0], none⟩,
      ⟨some 0, .mv (.t 6), [1, 0, 1], none⟩])
    (.reg [
      ⟨some 2, .mv (.c (.val (.int .i64 16))), [], none⟩]))
    .skip))
  (.seq (.seq (.reg [
    ⟨some 7, .mv (.t 0), [], none⟩,
    ⟨some 8, .bin .geq (.t 7) (.c (.val (.int .u32 256))), [0], none⟩])
  (.cond (.t 8)
    (.seq (.reg [
      ⟨some 9, .mv (.t 0), [], none⟩,
      ⟨some 10, .bin .shr (.t 9) (.c (.val (.int .u64 8))), [0], none⟩,
      ⟨some 0, .mv (.t 10), [1, 0, 1], none⟩])
    (.reg [
      ⟨some 11, .mv (.t 2), [], none⟩,
      ⟨some 12, .bin .add (.t 11) (.c (.val (.int .i64 8))), [0], none⟩,
      ⟨some 2, .mv (.t 12), [1, 0, 1], none⟩]))
    .skip))
  (.seq (.reg [
    ⟨some 13, .mv (.t 2), [], none⟩,
    ⟨some 14, .mv (.t 0), [], none⟩,
    ⟨some 15, .cvi .u8 (.t 14), [1], none⟩,
    ⟨some 16, .ixS (.c (.val (.string ⟨#[0, 1, 2, 2, 3, 3, 3, 3, 4, 4, 4, 4, 4, 4, 4, 4, 5, 5, 5, 5, 5, 5, 5, 5, 5, 5, 5, 5, 5, 5, 5, 5, 6, 6, 6, 6, 6, 6, 6, 6, 6, 6, 6, 6, 6, 6, 6, 6, 6, 6, 6, 6, 6, 6, 6, 6, 6, 6, 6, 6, 6, 6, 6, 6, 7, 7, 7, 7, 7, 7, 7, 7, 7, 7, 7, 7, 7, 7, 7, 7, 7, 7, 7, 7, 7, 7, 7, 7, 7, 7, 7, 7, 7, 7, 7, 7, 7, 7, 7, 7, 7, 7, 7, 7, 7, 7, 7, 7, 7, 7, 7, 7, 7, 7, 7, 7, 7, 7, 7, 7, 7, 7, 7, 7, 7, 7, 7, 7, 8, 8, 8, 8, 8, 8, 8, 8, 8, 8, 8, 8, 8, 8, 8, 8, 8, 8, 8, 8, 8, 8, 8, 8, 8, 8, 8, 8, 8, 8, 8, 8, 8, 8, 8, 8, 8, 8, 8, 8, 8, 8, 8, 8, 8, 8, 8, 8, 8, 8, 8, 8, 8, 8, 8, 8, 8, 8, 8, 8, 8, 8, 8, 8, 8, 8, 8, 8, 8, 8, 8, 8, 8, 8, 8, 8, 8, 8, 8, 8, 8, 8, 8, 8, 8, 8, 8, 8, 8, 8, 8, 8, 8, 8, 8, 8, 8, 8, 8, 8, 8, 8, 8, 8, 8, 8, 8, 8, 8, 8, 8, 8, 8, 8, 8, 8, 8, 8, 8, 8, 8, 8, 8, 8, 8, 8, 8, 8]⟩))) (.t 15), [2], none⟩,
    ⟨some 17, .cvi .i64 (.t 16), [3], none⟩,
    ⟨some 18, .bin .add (.t 13) (.t 17), [0, 4], none⟩,
    ⟨some 2, .mv (.t 18), [5, 0, 1, 2, 3, 4, 5], none⟩])
  .ret))))
theorem Tryp68 : (Try.f68.body.map (prep Try.prog 19)) = some Tryc68 := by kernel_rfl

/- math/bits.Len64 -/
def Tryc69 : ACode :=
  (.seq (.reg [
    ⟨some 2, .mv (.c (.val (.int .i64 0))), [], none⟩])
  (.seq (.seq (.reg [
    ⟨some 3, .mv (.t 0), [], none⟩,
    ⟨some 4, .bin .geq (.t 3) (.c (.val (.int .u64 4294967296))), [0], none⟩])
  (.cond (.t 4)
    (.seq (.reg [
      ⟨some 5, .mv (.t 0), [], none⟩,
      ⟨some 6, .bin .shr (.t 5) (.c (.val (.int .u64 32))), [0], none⟩,
      ⟨some 0, .mv (.t 6), [1, 0, 1], none⟩])
    (.reg [
      ⟨some 2, .mv (.c (.val (.int .i64 32))), [], none⟩]))
    .skip))
  (.seq (.seq (.reg [
    ⟨some 7, .mv (.t 0), [], none⟩,
    ⟨some 8, .bin .geq (.t 7) (.c (.val (.int .u64 65536))), [0], none⟩])
  (.cond (.t 8)
    (.seq (.reg [
      ⟨some 9, .mv (.t 0), [], none⟩,
      ⟨some 10, .bin .shr (.t 9) (.c (.val (.int .u64 16))), [0], none⟩,
      ⟨some 0, .mv (.t 10), [1, 0, 1], none⟩])
    (.reg [
      ⟨some 11, .mv (.t 2), [], none⟩,
      ⟨some 12, .bin .add (.t 11) (.c (.val (.int .i64 16))), [0], none⟩,
      ⟨some 2, .mv (.t 12), [1, 0, 1], none⟩]))
    .skip))
  (.seq (.seq (.reg [
    ⟨some 13, .mv (.t 0), [], none⟩,
    ⟨some 14, .bin .geq (.t 13) (.c (.val (.int .u64 256))), [0], none⟩])
  (.cond (.t 14)
    (.seq (.reg [
      ⟨some 15, .mv (.t 0), [], none⟩,
      ⟨some 16, .bin .shr (.t 15) (.c (.val (.int .u64 8))), [0], none⟩,
      ⟨some 0, .mv (.t 16), [1, 0, 1], none⟩])
    (.reg [
      ⟨some 17, .mv (.t 2), [], none⟩,
      ⟨some 18, .bin .add (.t 17) (.c (.val (.int .i64 8))), [0], none⟩,
      ⟨some 2, .mv (.t 18), [1, 0, 1], none⟩]))
    .skip))
  (.seq (.reg [
    ⟨some 19, .mv (.t 2), [], none⟩,
    ⟨some 20, .mv (.t 0), [], none⟩,
    ⟨some 21, .cvi .u8 (.t 20), [1], none⟩,
    ⟨some 22, .ixS (.c (.val (.string ⟨#[0, 1, 2, 2, 3, 3, 3, 3, 4, 4, 4, 4, 4, 4, 4, 4, 5, 5, 5, 5, 5, 5, 5, 5, 5, 5, 5, 5, 5, 5, 5, 5, 6, 6, 6, 6, 6, 6, 6, 6, 6, 6, 6, 6, 6, 6, 6, 6, 6, 6, 6, 6, 6, 6, 6, 6, 6, 6, 6, 6, 6, 6, 6, 6, 7, 7, 7, 7, 7, 7, 7, 7, 7, 7, 7, 7, 7, 7, 7, 7, 7, 7, 7, 7, 7, 7, 7, 7, 7, 7, 7, 7, 7, 7, 7, 7, 7, 7, 7, 7, 7, 7, 7, 7, 7, 7, 7, 7, 7, 7, 7, 7, 7, 7, 7, 7, 7, 7, 7, 7, 7, 7, 7, 7, 7, 7, 7, 7, 8, 8, 8, 8, 8, 8, 8, 8, 8, 8, 8, 8, 8, 8, 8, 8, 8, 8, 8, 8, 8, 8, 8, 8, 8, 8, 8, 8, 8, 8, 8, 8, 8, 8, 8, 8, 8, 8, 8, 8, 8, 8, 8, 8, 8, 8, 8, 8, 8, 8, 8, 8, 8, 8, 8, 8, 8, 8, 8, 8, 8, 8, 8, 8, 8, 8, 8, 8, 8, 8, 8, 8, 8, 8, 8, 8, 8, 8, 8, 8, 8, 8, 8, 8, 8, 8, 8, 8, 8, 8, 8, 8, 8, 8, 8, 8, 8, 8, 8, 8, 8, 8, 8, 8, 8, 8, 8, 8, 8, 8, 8, 8, 8, 8, 8, 8, 8, 8, 8, 8, 8, 8, 8, 8, 8, 8, 8, 8]⟩))) (.t 21), [2], none⟩,
    ⟨some 23, .cvi .i64 (.t 22), [3], none⟩,
    ⟨some 24, .bin .add (.t 19) (.t 23), [0, 4], none⟩,
    ⟨some 2, .mv (.t 24), [5, 0, 1, 2, 3, 4, 5], none⟩])
  .ret)))))
theorem Tryp69 : (Try.f69.body.map (prep Try.prog 25)) = some Tryc69 := by kernel_rfl

/- cmp.isNaN[int] -/
def Tryc70 : ACode :=
  (.seq (.reg [
    ⟨some 2, .mv (.c (.val (.bool false))), [], none⟩])
  (.seq (.reg [
    ⟨some 3, .mv (.t 0), [], none⟩,
    ⟨some 4, .mv (.t 0), [], none⟩,
    ⟨some 5, .bin .neq (.t 3) (.t 4), [0, 1], none⟩,
    ⟨some 2, .mv (.t 5), [2, 0, 1, 2], none⟩])
  .ret))
theorem Tryp70 : (Try.f70.body.map (prep Try.prog 6)) = some Tryc70 := by kernel_rfl

end Go.Am
end
section
set_option linter.unusedVariables false
set_option linter.unusedSimpArgs false
set_option maxRecDepth 20000
namespace Go.Am
open Go.Proofs

theorem on_gcallv {E : Env} {n N : Nat} {Q : AExit → AFr → AHeap → Prop} {k : List KI} {F : AFr} {H : AHeap} {o : AOper} {l : List AOper} {x : Opd} {xs : List Opd} {fv : AV} {args : List AV} {R : AV → AHeap → Prop} {d : Nat} {b : Bool} (hg : o.guard = some (d, b)) (hd : F.get d = .val (.bool b)) (ho : o.op = .callv x xs) (hf : x.ev E.G F = fv) (ha : xs.map (·.ev E.G F) = args) (hc : ACallV E fv args H R)
    (h : ∀ v H1, R v H1 → Holds E n N Q (.ops l) k (F.set o.dst v) H1) : Holds E n N Q (.ops (o :: l)) k F H :=
  aops_callv (by rw [hg]; simp only [wantA, hd]; cases b <;> rfl) ho hf ha hc h
theorem P70 (a : Int) : PCall EE 70 [int a] (.val (.bool false)) := by
  refine words fun iLt iLe iEq iNe iAdd iSub iMul iQuo iRem iShr iNeg iCvt iMax iMin bNot bEq bNe bAnd bOr sEq sNe sLen sCat sCut sAt lenA lenN iOf natOf atA atN cutA partA dropA catA setA repA putA idxN addN subN minN lenCut hX e_iLt e_iLe e_iEq e_iNe e_iAdd e_iSub e_iMul e_iQuo e_iRem e_iShr e_iNeg e_iCvt e_iMax e_iMin e_bNot e_bEq e_bNe e_bAnd e_bOr e_sEq e_sNe e_sLen e_sCat e_sCut e_sAt e_lenA e_lenN e_iOf e_natOf e_atA e_atN e_cutA e_partA e_dropA e_catA e_setA e_repA e_putA e_idxN e_addN e_subN e_minN e_lenCut ee => ?_
  refine fn_body (fn := Try.f70) (n := 6) (ac := Tryc70) (rvs := [.t 2]) rfl (by decide) Tryp70 rfl rfl rfl ?_
  refine go rfl hX 0 (by conv => lhs; cbv) ?_ ?_
  · first | exact trivial | (simp only [Cd.ok, ee]; and_intros <;> first | omega | rfl | (simp <;> omega))
  refine fn_ret rfl rfl (.val ?_)
  simp [ee, decide_eq_true_eq, decide_eq_false_iff_not, Bool.and_eq_true, Bool.or_eq_true, Bool.not_eq_true', Bool.not_eq_false', Bool.and_eq_false_iff, Bool.or_eq_false_iff, bne_iff_ne, beq_iff_eq, beq_eq_false_iff_ne, bne_eq_false_iff_eq, ne_eq, Int.not_lt, Int.not_le, Decidable.not_not]

def cmpF (a b : Int) : Int := if a < b then -1 else if b < a then 1 else 0
theorem P56 (a b : Int) : PCall EE 56 [int a, int b] (int (cmpF a b)) := by
  refine words fun iLt iLe iEq iNe iAdd iSub iMul iQuo iRem iShr iNeg iCvt iMax iMin bNot bEq bNe bAnd bOr sEq sNe sLen sCat sCut sAt lenA lenN iOf natOf atA atN cutA partA dropA catA setA repA putA idxN addN subN minN lenCut hX e_iLt e_iLe e_iEq e_iNe e_iAdd e_iSub e_iMul e_iQuo e_iRem e_iShr e_iNeg e_iCvt e_iMax e_iMin e_bNot e_bEq e_bNe e_bAnd e_bOr e_sEq e_sNe e_sLen e_sCat e_sCut e_sAt e_lenA e_lenN e_iOf e_natOf e_atA e_atN e_cutA e_partA e_dropA e_catA e_setA e_repA e_putA e_idxN e_addN e_subN e_minN e_lenCut ee => ?_
  unfold cmpF
  refine fn_body (fn := Try.f56) (n := 20) (ac := Tryc56) (rvs := [.t 4]) rfl (by decide) Tryp56 rfl rfl rfl ?_
  refine go rfl hX 0 (by conv => lhs; cbv) ?_ ?_
  · first | exact trivial | (simp only [Cd.ok, ee]; and_intros <;> first | omega | rfl | (simp <;> omega))
  refine on_pcall rfl rfl rfl (P70 a) rfl ?_
  refine go rfl hX 0 (by conv => lhs; cbv) ?_ ?_
  · first | exact trivial | (simp only [Cd.ok, ee]; and_intros <;> first | omega | rfl | (simp <;> omega))
  refine on_pcall rfl rfl rfl (P70 b) rfl ?_
  refine go rfl hX 2 (by conv => lhs; cbv) ?_ ?_
  · first | exact trivial | (simp only [Cd.ok, ee]; and_intros <;> first | omega | rfl | (simp <;> omega))
  refine on_cond rfl (fun h1 => ?_) (fun h1 => ?_)
  · simp [ee, decide_eq_true_eq, decide_eq_false_iff_not, Bool.and_eq_true, Bool.or_eq_true, Bool.not_eq_true', Bool.not_eq_false', Bool.and_eq_false_iff, Bool.or_eq_false_iff, bne_iff_ne, beq_iff_eq, beq_eq_false_iff_ne, bne_eq_false_iff_eq, ne_eq, Int.not_lt, Int.not_le, Decidable.not_not] at h1
    refine go rfl hX 0 (by conv => lhs; cbv) ?_ ?_
    · first | exact trivial | (simp only [Cd.ok, ee]; and_intros <;> first | omega | rfl | (simp <;> omega))
    refine fn_ret rfl rfl (.val ?_)
    rw [if_pos h1]
  simp [ee, decide_eq_true_eq, decide_eq_false_iff_not, Bool.and_eq_true, Bool.or_eq_true, Bool.not_eq_true', Bool.not_eq_false', Bool.and_eq_false_iff, Bool.or_eq_false_iff, bne_iff_ne, beq_iff_eq, beq_eq_false_iff_ne, bne_eq_false_iff_eq, ne_eq, Int.not_lt, Int.not_le, Decidable.not_not] at h1
  rw [if_neg (by omega)]
  refine go rfl hX 0 (by conv => lhs; cbv) ?_ ?_
  · first | exact trivial | (simp only [Cd.ok, ee]; and_intros <;> first | omega | rfl | (simp <;> omega))
  refine on_cond rfl (fun h2 => ?_) (fun h2 => ?_)
  · simp [ee, decide_eq_true_eq, decide_eq_false_iff_not, Bool.and_eq_true, Bool.or_eq_true, Bool.not_eq_true', Bool.not_eq_false', Bool.and_eq_false_iff, Bool.or_eq_false_iff, bne_iff_ne, beq_iff_eq, beq_eq_false_iff_ne, bne_eq_false_iff_eq, ne_eq, Int.not_lt, Int.not_le, Decidable.not_not] at h2
    refine go rfl hX 0 (by conv => lhs; cbv) ?_ ?_
    · first | exact trivial | (simp only [Cd.ok, ee]; and_intros <;> first | omega | rfl | (simp <;> omega))
    refine fn_ret rfl rfl (.val ?_)
    rw [if_pos h2]
  simp [ee, decide_eq_true_eq, decide_eq_false_iff_not, Bool.and_eq_true, Bool.or_eq_true, Bool.not_eq_true', Bool.not_eq_false', Bool.and_eq_false_iff, Bool.or_eq_false_iff, bne_iff_ne, beq_iff_eq, beq_eq_false_iff_ne, bne_eq_false_iff_eq, ne_eq, Int.not_lt, Int.not_le, Decidable.not_not] at h2
  refine go rfl hX 0 (by conv => lhs; cbv) ?_ ?_
  · first | exact trivial | (simp only [Cd.ok, ee]; and_intros <;> first | omega | rfl | (simp <;> omega))
  refine fn_ret rfl rfl (.val ?_)
  rw [if_neg (by omega)]

theorem P55 (b : Bat) (e : Int) : PCall EE 55 [b.enc, int e] (int (cmpF b.epoch e)) := by
  have P56c := P56 b.epoch e
  generalize hcf : cmpF b.epoch e = cf at *
  refine words fun iLt iLe iEq iNe iAdd iSub iMul iQuo iRem iShr iNeg iCvt iMax iMin bNot bEq bNe bAnd bOr sEq sNe sLen sCat sCut sAt lenA lenN iOf natOf atA atN cutA partA dropA catA setA repA putA idxN addN subN minN lenCut hX e_iLt e_iLe e_iEq e_iNe e_iAdd e_iSub e_iMul e_iQuo e_iRem e_iShr e_iNeg e_iCvt e_iMax e_iMin e_bNot e_bEq e_bNe e_bAnd e_bOr e_sEq e_sNe e_sLen e_sCat e_sCut e_sAt e_lenA e_lenN e_iOf e_natOf e_atA e_atN e_cutA e_partA e_dropA e_catA e_setA e_repA e_putA e_idxN e_addN e_subN e_minN e_lenCut ee => ?_
  refine fn_body (fn := Try.f55) (n := 9) (ac := Tryc55) (rvs := [.t 4]) rfl (by decide) Tryp55 rfl rfl rfl ?_
  refine go rfl hX 0 (by conv => lhs; cbv) ?_ ?_
  · first | exact trivial | (simp only [Cd.ok, ee]; and_intros <;> first | omega | rfl | (simp <;> omega))
  refine on_pcall (args := [int b.epoch, int e]) rfl rfl rfl P56c rfl ?_
  refine go rfl hX 0 (by conv => lhs; cbv) ?_ ?_
  · first | exact trivial | (simp only [Cd.ok, ee]; and_intros <;> first | omega | rfl | (simp <;> omega))
  exact fn_ret rfl rfl (.val rfl)

def foundF (e : Int) : List Bat → Bool
  | [] => false
  | b :: _ => decide (b.epoch = e)
theorem P54 (l d r : List Bat) (e : Int) (hl : l = d ++ r) (hs : Short l) (hd : ∀ b ∈ d, b.epoch < e) (hr : ∀ b ∈ r, e ≤ b.epoch) : PCall EE 54 [.isl 2 (mapE Bat.enc l), int e, .fn 55 []] (.tup [int d.length, .val (.bool (foundF e r))]) := by
  unfold Short at hs
  refine words fun iLt iLe iEq iNe iAdd iSub iMul iQuo iRem iShr iNeg iCvt iMax iMin bNot bEq bNe bAnd bOr sEq sNe sLen sCat sCut sAt lenA lenN iOf natOf atA atN cutA partA dropA catA setA repA putA idxN addN subN minN lenCut hX e_iLt e_iLe e_iEq e_iNe e_iAdd e_iSub e_iMul e_iQuo e_iRem e_iShr e_iNeg e_iCvt e_iMax e_iMin e_bNot e_bEq e_bNe e_bAnd e_bOr e_sEq e_sNe e_sLen e_sCat e_sCut e_sAt e_lenA e_lenN e_iOf e_natOf e_atA e_atN e_cutA e_partA e_dropA e_catA e_setA e_repA e_putA e_idxN e_addN e_subN e_minN e_lenCut ee => ?_
  have hcl := closedB l
  generalize hel : mapE Bat.enc l = el at hcl ⊢
  have hll : el.length = l.length := by rw [← hel, mapE_len]
  have hdr := len_split hl
  have henter : Enters EE.P 55 := (P55 ⟨0, []⟩ 0).1
  have hsplit : ∀ h, h < l.length → ∃ dd c rr, l = dd ++ c :: rr ∧ h = dd.length := by
    intro h hh
    exact ⟨l.take h, l[h], l.drop (h + 1), by simp, by simp; omega⟩
  refine fn_body (fn := Try.f54) (n := 49) (ac := Tryc54) (rvs := [.t 6, .t 7]) rfl (by decide) Tryp54 rfl rfl rfl ?_
  refine go rfl hX 0 (by conv => lhs; cbv) ?_ ?_
  · first | exact trivial | (simp only [Cd.ok, ee]; and_intros <;> first | omega | rfl | (simp <;> omega))
  refine on_loopP (ι := Int × Int × Nat × Nat) (fun p => ([(9, int p.1), (10, int p.2.1), (0, .isl 2 el), (1, int e), (2, .fn 55 []), (8, int (lenA el)), (7, .val (.bool false))], [])) (fun p => p.1 = p.2.2.1 ∧ p.2.1 = p.2.2.2 ∧ p.2.2.1 ≤ d.length ∧ d.length ≤ p.2.2.2 ∧ p.2.2.2 ≤ l.length) (fun p => p.2.2.2 - p.2.2.1) (0, lenA el, 0, l.length) ⟨rfl, by simp [ee, hll], by simp, by dsimp only; omega, by simp⟩ (ent_fw ⟨.refl _, .refl _, .refl _, .refl _, .refl _, .refl _, .refl _, trivial⟩) ?_
  rintro ⟨i, j, ni, nj⟩ ⟨hi, hj, h1, h2, h3⟩
  dsimp only at hi hj h1 h2 h3 ⊢
  refine go rfl hX 0 (by conv => lhs; cbv) ?_ ?_
  · first | exact trivial | (simp only [Cd.ok, ee]; and_intros <;> first | omega | rfl | (simp <;> omega))
  refine on_cond rfl (fun h4 => ?_) (fun h4 => ?_)
  · simp [ee, decide_eq_true_eq, decide_eq_false_iff_not, Bool.and_eq_true, Bool.or_eq_true, Bool.not_eq_true', Bool.not_eq_false', Bool.and_eq_false_iff, Bool.or_eq_false_iff, bne_iff_ne, beq_iff_eq, beq_eq_false_iff_ne, bne_eq_false_iff_eq, ne_eq, Int.not_lt, Int.not_le, Decidable.not_not] at h4
    have hmid : iCvt .i64 (iShr .u64 (iCvt .u64 (iAdd .i64 i j)) 1) = (((ni + nj) / 2 : Nat) : Int) := by
      simp only [ee, hi, hj]
      have e1 : IntKind.i64.wrap ((ni : Int) + nj) = ((ni + nj : Nat) : Int) := by rw [wrap64 (by omega) (by omega)]; simp
      have e2 : IntKind.u64.wrap ((ni + nj : Nat) : Int) = ((ni + nj : Nat) : Int) := by
        unfold IntKind.wrap; simp [IntKind.bits, IntKind.signed]; omega
      have e3 : (((ni + nj : Nat) : Int)).fdiv (2 ^ min (Int.toNat 1) IntKind.u64.bits) = (((ni + nj) / 2 : Nat) : Int) := by
        show Int.fdiv _ 2 = _
        rw [Int.fdiv_eq_ediv_of_nonneg _ (by omega)]; simp
      rw [e1, e2, e3, wrap64 (by omega) (by omega)]
    generalize hh : (ni + nj) / 2 = h at hmid
    obtain ⟨dd, c, rr, hc1, hc2⟩ := hsplit h (by omega)
    have hlc := len_split hc1
    simp only [List.length_cons] at hlc
    have hat := el_at0 (i := (h : Int)) e_atA hel hc1 (by simpa using hc2)
    have hcm : (h < d.length → c ∈ d) ∧ (d.length ≤ h → c ∈ r) := by
      have hx : l[h]? = some c := by rw [hc1, hc2]; simp
      rw [hl] at hx
      refine ⟨fun hlt => ?_, fun hge => ?_⟩
      · rw [List.getElem?_append_left hlt] at hx; exact List.mem_of_getElem? hx
      · rw [List.getElem?_append_right hge] at hx; exact List.mem_of_getElem? hx
    have P55c := P55 c e
    have hcc := Bat.closed c
    have hcenc : c.enc = .agg [int c.epoch, .isl 3 (mapE Chg.enc c.cs)] := rfl
    rw [hcenc] at P55c hcc hat
    generalize mapE Chg.enc c.cs = ebs at P55c hcc hat
    generalize hce : c.epoch = ce at P55c hcc hat
    generalize hcf : cmpF ce e = cf at P55c
    generalize hhi : (h : Int) = hI at hmid hat
    refine go rfl hX 0 (by conv => lhs; cbv; simp only [hmid,hat]; cbv; simp only [hmid,hat]; cbv) ?_ ?_
    · first | exact trivial | (simp only [Cd.ok, ee]; and_intros <;> first | omega | rfl | (simp <;> omega))
    refine on_callv rfl rfl rfl rfl ⟨henter, P55c.lift (closed2 hcc rfl)⟩ ?_
    rintro _ _ ⟨rfl, rfl⟩
    refine go rfl hX 0 (by conv => lhs; cbv) ?_ ?_
    · first | exact trivial | (simp only [Cd.ok, ee]; and_intros <;> first | omega | rfl | (simp <;> omega))
    refine on_cond rfl (fun h5 => ?_) (fun h5 => ?_)
    · simp [ee, decide_eq_true_eq, decide_eq_false_iff_not, Bool.and_eq_true, Bool.or_eq_true, Bool.not_eq_true', Bool.not_eq_false', Bool.and_eq_false_iff, Bool.or_eq_false_iff, bne_iff_ne, beq_iff_eq, beq_eq_false_iff_ne, bne_eq_false_iff_eq, ne_eq, Int.not_lt, Int.not_le, Decidable.not_not] at h5
      have hlt : ce < e := by unfold cmpF at hcf; split at hcf <;> first | assumption | (split at hcf <;> omega)
      have hhd : h < d.length := by
        rcases Nat.lt_or_ge h d.length with hx | hx
        · exact hx
        · have := hr c (hcm.2 hx); omega
      refine go rfl hX 0 (by conv => lhs; cbv) ?_ ?_
      · first | exact trivial | (simp only [Cd.ok, ee]; and_intros <;> first | omega | rfl | (simp <;> omega))
      refine loopP_next (iAdd .i64 hI 1, j, h + 1, nj) ⟨?_, hj, by dsimp only; omega, h2, h3⟩ (by dsimp only; omega) (ent_fw ⟨.refl _, .refl _, .refl _, .refl _, .refl _, .refl _, .refl _, trivial⟩)
      exact inc_w e_iAdd hhi.symm (by omega)
    · simp [ee, decide_eq_true_eq, decide_eq_false_iff_not, Bool.and_eq_true, Bool.or_eq_true, Bool.not_eq_true', Bool.not_eq_false', Bool.and_eq_false_iff, Bool.or_eq_false_iff, bne_iff_ne, beq_iff_eq, beq_eq_false_iff_ne, bne_eq_false_iff_eq, ne_eq, Int.not_lt, Int.not_le, Decidable.not_not] at h5
      have hge : e ≤ ce := by unfold cmpF at hcf; split at hcf <;> omega
      have hhd : d.length ≤ h := by
        rcases Nat.lt_or_ge h d.length with hx | hx
        · have := hd c (hcm.1 hx); omega
        · exact hx
      refine go rfl hX 0 (by conv => lhs; cbv) ?_ ?_
      · first | exact trivial | (simp only [Cd.ok, ee]; and_intros <;> first | omega | rfl | (simp <;> omega))
      exact loopP_next (i, hI, ni, h) ⟨hi, hhi.symm, h1, hhd, by dsimp only; omega⟩ (by dsimp only; omega) (ent_fw ⟨.refl _, .refl _, .refl _, .refl _, .refl _, .refl _, .refl _, trivial⟩)
  · simp [ee, decide_eq_true_eq, decide_eq_false_iff_not, Bool.and_eq_true, Bool.or_eq_true, Bool.not_eq_true', Bool.not_eq_false', Bool.and_eq_false_iff, Bool.or_eq_false_iff, bne_iff_ne, beq_iff_eq, beq_eq_false_iff_ne, bne_eq_false_iff_eq, ne_eq, Int.not_lt, Int.not_le, Decidable.not_not] at h4
    refine go rfl hX 0 (by conv => lhs; cbv) ?_ ?_
    · first | exact trivial | (simp only [Cd.ok, ee]; and_intros <;> first | omega | rfl | (simp <;> omega))
    refine loopP_exit ?_
    have hdi : i = (d.length : Int) := by omega
    generalize hdl : (d.length : Int) = dl at *
    subst hdi
    refine go rfl hX 0 (by conv => lhs; cbv) ?_ ?_
    · first | exact trivial | (simp only [Cd.ok, ee]; and_intros <;> first | omega | rfl | (simp <;> omega))
    refine on_guard rfl rfl (fun h6 => ?_) (fun h6 => ?_)
    · simp [ee, decide_eq_true_eq, decide_eq_false_iff_not, Bool.and_eq_true, Bool.or_eq_true, Bool.not_eq_true', Bool.not_eq_false', Bool.and_eq_false_iff, Bool.or_eq_false_iff, bne_iff_ne, beq_iff_eq, beq_eq_false_iff_ne, bne_eq_false_iff_eq, ne_eq, Int.not_lt, Int.not_le, Decidable.not_not, hll] at h6
      cases r with
      | nil => exfalso; simp at hdr; omega
      | cons c rr =>
        have hat := el_at0 (i := i) e_atA hel hl (by omega)
        have P55c := P55 c e
        have hcc := Bat.closed c
        have hcenc : c.enc = .agg [int c.epoch, .isl 3 (mapE Chg.enc c.cs)] := rfl
        rw [hcenc] at P55c hcc hat
        have hfd : foundF e (c :: rr) = decide (c.epoch = e) := rfl
        rw [hfd]
        generalize mapE Chg.enc c.cs = ebs at P55c hcc hat
        generalize hce : c.epoch = ce at P55c hcc hat ⊢
        generalize hcf : cmpF ce e = cf at P55c
        refine go rfl hX 6 (by conv => lhs; cbv; simp only [hat]; cbv) ?_ ?_
        · first | exact trivial | (simp only [Cd.ok, ee]; and_intros <;> first | omega | rfl | (simp <;> omega))
        refine on_gcallv rfl rfl rfl rfl rfl ⟨henter, P55c.lift (closed2 hcc rfl)⟩ ?_
        rintro _ _ ⟨rfl, rfl⟩
        refine go rfl hX 0 (by conv => lhs; cbv) ?_ ?_
        · first | exact trivial | (simp only [Cd.ok, ee]; and_intros <;> first | omega | rfl | (simp <;> omega))
        refine fn_ret rfl rfl (.none (.tup' ⟨.refl _, .of ?_, trivial⟩))
        have hge := hr c List.mem_cons_self
        rw [hce] at hge
        show AV.val (.bool _) = _
        refine congrArg (fun b => AV.val (.bool b)) ?_
        rw [Bool.eq_iff_iff]; simp [ee, decide_eq_true_eq, decide_eq_false_iff_not, Bool.and_eq_true, Bool.or_eq_true, Bool.not_eq_true', Bool.not_eq_false', Bool.and_eq_false_iff, Bool.or_eq_false_iff, bne_iff_ne, beq_iff_eq, beq_eq_false_iff_ne, bne_eq_false_iff_eq, ne_eq, Int.not_lt, Int.not_le, Decidable.not_not]
        rw [← hcf]; unfold cmpF; split <;> first | omega | (split <;> omega)
    · simp [ee, decide_eq_true_eq, decide_eq_false_iff_not, Bool.and_eq_true, Bool.or_eq_true, Bool.not_eq_true', Bool.not_eq_false', Bool.and_eq_false_iff, Bool.or_eq_false_iff, bne_iff_ne, beq_iff_eq, beq_eq_false_iff_ne, bne_eq_false_iff_eq, ne_eq, Int.not_lt, Int.not_le, Decidable.not_not, hll] at h6
      have hrn : r = [] := by
        cases r with
        | nil => rfl
        | cons c rr => exfalso; simp at hdr; omega
      subst hrn
      refine go rfl hX 8 (by conv => lhs; cbv) ?_ ?_
      · first | exact trivial | (simp only [Cd.ok, ee]; and_intros <;> first | omega | rfl | (simp <;> omega))
      refine on_gskip rfl rfl ?_
      refine go rfl hX 0 (by conv => lhs; cbv) ?_ ?_
      · first | exact trivial | (simp only [Cd.ok, ee]; and_intros <;> first | omega | rfl | (simp <;> omega))
      exact fn_ret rfl rfl (.none (.tup' ⟨.refl _, .refl _, trivial⟩))

theorem P43 (l d r : List Bat) (e : Int) (hl : l = d ++ r) (hs : Short l) (hd : ∀ b ∈ d, b.epoch < e) (hr : ∀ b ∈ r, e ≤ b.epoch) : PCall EE 43 [.isl 2 (mapE Bat.enc l), int e] (.tup [int d.length, .val (.bool (foundF e r))]) := by
  have P54c := P54 l d r e hl hs hd hr
  have hcl := closedB l
  generalize hf : foundF e r = fd at *
  generalize hdl : (d.length : Int) = dl at *
  refine words fun iLt iLe iEq iNe iAdd iSub iMul iQuo iRem iShr iNeg iCvt iMax iMin bNot bEq bNe bAnd bOr sEq sNe sLen sCat sCut sAt lenA lenN iOf natOf atA atN cutA partA dropA catA setA repA putA idxN addN subN minN lenCut hX e_iLt e_iLe e_iEq e_iNe e_iAdd e_iSub e_iMul e_iQuo e_iRem e_iShr e_iNeg e_iCvt e_iMax e_iMin e_bNot e_bEq e_bNe e_bAnd e_bOr e_sEq e_sNe e_sLen e_sCat e_sCut e_sAt e_lenA e_lenN e_iOf e_natOf e_atA e_atN e_cutA e_partA e_dropA e_catA e_setA e_repA e_putA e_idxN e_addN e_subN e_minN e_lenCut ee => ?_
  generalize hel : mapE Bat.enc l = el at hcl P54c ⊢
  refine fn_body (fn := Try.f43) (n := 11) (ac := Tryc43) (rvs := [.t 4, .t 5]) rfl (by decide) Tryp43 rfl rfl rfl ?_
  refine go rfl hX 0 (by conv => lhs; cbv) ?_ ?_
  · first | exact trivial | (simp only [Cd.ok, ee]; and_intros <;> first | omega | rfl | (simp <;> omega))
  refine on_pcall (args := [.isl 2 el, int e, .fn 55 []]) rfl rfl rfl P54c (by show AV.closedL [.isl 2 el, int e, .fn 55 []] = true; simp only [AV.closedL, hcl, Bool.true_and]; rfl) ?_
  refine go rfl hX 0 (by conv => lhs; cbv) ?_ ?_
  · first | exact trivial | (simp only [Cd.ok, ee]; and_intros <;> first | omega | rfl | (simp <;> omega))
  exact fn_ret rfl rfl (.none (.tup' ⟨.refl _, .refl _, trivial⟩))
end Go.Am
end
section
set_option linter.unusedVariables false
set_option linter.unusedSimpArgs false
set_option maxRecDepth 20000
namespace Go.Am
open Go.Proofs

theorem fitL {α : Type} {k : Nat} {enc : α → AV} (h : ∀ x, fitB k [enc x] = true) (l : List α) : fitB k (mapE enc l) = true := by
  rw [mapE_eq, fitB, List.all_map, List.all_eq_true]
  intro x _
  have := h x
  simpa [fitB] using this

theorem P53 (l : List Chg) (hl : l.length < 500000000000) : OCall EE 53 [.isl 3 (mapE Chg.enc l)] (.sl 0 3 0 l.length) [.arr 3 (mapE Chg.enc l)] := by
  refine words fun iLt iLe iEq iNe iAdd iSub iMul iQuo iRem iShr iNeg iCvt iMax iMin bNot bEq bNe bAnd bOr sEq sNe sLen sCat sCut sAt lenA lenN iOf natOf atA atN cutA partA dropA catA setA repA putA idxN addN subN minN lenCut hX e_iLt e_iLe e_iEq e_iNe e_iAdd e_iSub e_iMul e_iQuo e_iRem e_iShr e_iNeg e_iCvt e_iMax e_iMin e_bNot e_bEq e_bNe e_bAnd e_bOr e_sEq e_sNe e_sLen e_sCat e_sCut e_sAt e_lenA e_lenN e_iOf e_natOf e_atA e_atN e_cutA e_partA e_dropA e_catA e_setA e_repA e_putA e_idxN e_addN e_subN e_minN e_lenCut ee => ?_
  have hcl := closedC l
  have hfit := fitL (k := 3) (enc := Chg.enc) fitC l
  generalize hes : mapE Chg.enc l = es at *
  have hel : es.length = l.length := by rw [← hes, mapE_len]
  generalize hn : l.length = n at *
  refine ocall_body (fn := Try.f53) (n := 8) (ac := Tryc53) (rvs := [.t 2]) rfl (by decide) Tryp53 rfl rfl rfl ?_
  refine go rfl hX 0 (by conv => lhs; cbv) ?_ ?_
  · first | exact trivial | (simp only [Cd.ok, ee]; and_intros <;> first | omega | rfl | (simp <;> omega))
  refine on_eqnilI rfl rfl rfl rfl (fun t ht => ?_)
  refine go rfl hX 0 (by conv => lhs; cbv) ?_ ?_
  · first | exact trivial | (simp only [Cd.ok, ee]; and_intros <;> first | omega | rfl | (simp <;> omega))
  refine on_cond rfl (fun h1 => ?_) (fun h1 => ?_)
  · have he := ht h1
    subst he
    simp at hel
    subst hel
    refine go rfl hX 0 (by conv => lhs; cbv) ?_ ?_
    · first | exact trivial | (simp only [Cd.ok, ee]; and_intros <;> first | omega | rfl | (simp <;> omega))
    exact o_ret (F2 := [(2, .sl 0 3 0 0)]) (H2 := [.arr 3 []]) (ent_sub [] [none] trivial ⟨.none 3 rfl, trivial⟩ ⟨.nilS 0 3 0 (by simp), trivial⟩) rfl ⟨rfl, rfl⟩
  · refine go rfl hX 0 (by conv => lhs; cbv) ?_ ?_
    · simp only [Cd.ok, ee]; (and_intros <;> first | omega | rfl | exact hfit | simp [fitB])
    refine o_ret (F2 := [(2, .sl 0 3 0 n)]) (H2 := [.arr 3 es]) (ent_sub [.gone, .to 0] [some 1] ⟨trivial, ⟨by simp, rfl⟩, trivial⟩ ⟨osrc_arr (b := 1) rfl rfl rfl ?_ hcl, trivial⟩ ⟨.of ?_, trivial⟩) rfl ⟨rfl, rfl⟩
    · simp [ee]
    · simp only [ee]
      show AV.sl 0 3 0 (0 + es.length) = _
      rw [Nat.zero_add, hel]

set_option maxHeartbeats 1000000 in
theorem P42 (s : Snk) (hp : s.pend.length < 500000000000) (hcm : s.com.length < 500000000000) (hb : ∀ b ∈ s.pend, b.cs.length < 500000000000) :
    OCall EE 42 [s.enc] (.agg [int s.epoch, .sl 0 3 0 s.com.length, .sl 1 2 0 s.pend.length]) [.arr 3 (mapE Chg.enc s.com), .arr 2 (mapE Bat.enc s.pend)] := by
  have P53c := P53 s.com hcm
  have P53b := fun b (h : b ∈ s.pend) => P53 b.cs (hb b h)
  have hcom := closedC s.com
  have hcp := closedB s.pend
  obtain ⟨e, com, pend⟩ := s
  dsimp only at *
  refine words fun iLt iLe iEq iNe iAdd iSub iMul iQuo iRem iShr iNeg iCvt iMax iMin bNot bEq bNe bAnd bOr sEq sNe sLen sCat sCut sAt lenA lenN iOf natOf atA atN cutA partA dropA catA setA repA putA idxN addN subN minN lenCut hX e_iLt e_iLe e_iEq e_iNe e_iAdd e_iSub e_iMul e_iQuo e_iRem e_iShr e_iNeg e_iCvt e_iMax e_iMin e_bNot e_bEq e_bNe e_bAnd e_bOr e_sEq e_sNe e_sLen e_sCat e_sCut e_sAt e_lenA e_lenN e_iOf e_natOf e_atA e_atN e_cutA e_partA e_dropA e_catA e_setA e_repA e_putA e_idxN e_addN e_subN e_minN e_lenCut ee => ?_
  have henc : (⟨e, com, pend⟩ : Snk).enc = .agg [int e, .isl 3 (mapE Chg.enc com), .isl 2 (mapE Bat.enc pend)] := rfl
  rw [henc]
  have hclc : AV.closedL (mapE Chg.enc com) = true := closed_mapE Chg.closed _
  generalize hec : mapE Chg.enc com = ec at *
  generalize hep : mapE Bat.enc pend = ep at *
  generalize hcn : com.length = cn at *
  have hpl : ep.length = pend.length := by rw [← hep, mapE_len]
  refine ocall_body (fn := Try.f42) (n := 32) (ac := Tryc42) (rvs := [.cell 2 3 true]) rfl (by decide) Tryp42 rfl rfl rfl ?_
  refine go rfl hX 0 (by conv => lhs; cbv) ?_ ?_
  · first | exact trivial | (simp only [Cd.ok, ee]; and_intros <;> first | omega | rfl | (simp <;> omega))
  refine trp_drawE [4, 6, 7] [[4, 6, 7], [6, 4, 7]] [(1, .ptr 0 0), (2, .ptr 1 0), (3, .ptr 2 0)] [.cells [int e, .isl 3 ec, .isl 2 ep], .cells [int 0, .val (.slice none 0 0), .val (.slice none 0 0)], .cells [int e, .sl 3 3 0 cn, .val (.slice none 0 0)], .arr 3 ec] rfl rfl rfl (by decide) rfl ?_ ⟨⟨[0, 1, 2, 3, 4, 5, 6, 7], rfl, ?_⟩, ⟨[6, 0, 1, 2, 3, 4, 5, 7], rfl, ?_⟩, trivial⟩
  · refine go rfl hX 0 (by conv => lhs; cbv) ?_ ?_
    · first | exact trivial | (simp only [Cd.ok, ee]; and_intros <;> first | omega | rfl | (simp <;> omega))
    refine on_loopP (ι := List Bat × List Bat × Int × Nat × List AV) (fun p => ([(15, int p.2.2.1), (14, int (lenA ep)), (13, .isl 2 ep), (1, .ptr 0 0), (2, .ptr 1 0), (3, .ptr 2 0)], [.cells [int e, .isl 3 ec, .isl 2 ep], .cells [int 0, .val (.slice none 0 0), .val (.slice none 0 0)], .cells [int e, .sl 3 3 0 cn, .sl 4 2 0 p.2.2.2.1], .arr 3 ec, .arr 2 p.2.2.2.2]))
      (fun p => pend = p.1 ++ p.2.1 ∧ p.2.2.1 = p.1.length ∧ p.2.2.2.1 = p.1.length ∧ p.2.2.2.2 = mapE Bat.enc p.1) (fun p => p.2.1.length) ([], pend, 0, 0, []) ⟨rfl, rfl, rfl, by simp [mapE_eq]⟩
      (ent_sub [.to 0, .to 1, .to 2, .to 3] [some 0, some 1, some 2, some 3, none] ⟨⟨by simp, rfl⟩, ⟨by simp, rfl⟩, ⟨by simp, rfl⟩, ⟨by simp, rfl⟩, trivial⟩
        ⟨osrc_cells (b := 0) rfl rfl rfl ⟨.refl _, .cl hcom, .cl hcp, trivial⟩, osrc_cells (b := 1) rfl rfl rfl ⟨.refl _, .refl _, .refl _, trivial⟩, osrc_cells (b := 2) rfl rfl rfl ⟨.refl _, .refl _, .nilS 4 2 0 (by simp), trivial⟩, osrc_arr (b := 3) rfl rfl rfl rfl hclc, .none 2 rfl, trivial⟩ ⟨.refl _, .refl _, .cl hcp, .refl _, .refl _, .refl _, trivial⟩) ?_
    rintro ⟨d, r, i, m, es⟩ ⟨g1, gi, gm, ge⟩
    dsimp only at g1 gi gm ge ⊢
    have hesl : es.length = m := by rw [ge, mapE_len, gm]
    have hces : AV.closedL es = true := by rw [ge]; exact closed_mapE Bat.closed _
    cases r with
    | nil =>
      have L1 := len_split g1
      try simp only [List.length_cons, List.length_nil] at L1
      have hcd : iLt i (lenA ep) = false := lt_f e_iLt e_lenA (by omega)
      refine go rfl hX 1 (by conv => lhs; cbv; simp only [hcd]; cbv) ?_ ?_
      · first | exact trivial | (simp only [Cd.ok, ee]; and_intros <;> first | omega | rfl | (simp <;> omega))
      refine loopP_exit ?_
      refine go rfl hX 0 (by conv => lhs; cbv) ?_ ?_
      · first | exact trivial | (simp only [Cd.ok, ee]; and_intros <;> first | omega | rfl | (simp <;> omega))
      rw [List.append_nil] at g1
      refine o_ret (F2 := [(2, .iptr [int e, .sl 0 3 0 cn, .sl 1 2 0 m])]) (H2 := [.arr 3 ec, .arr 2 es]) ?_ rfl ⟨?_, ?_⟩
      · exact ent_sub [.gone, .icells [int e, .sl 0 3 0 cn, .sl 1 2 0 m], .gone, .to 0, .to 1] [some 3, some 4] ⟨trivial, ⟨_, rfl, rfl⟩, trivial, ⟨by simp, rfl⟩, ⟨by simp, rfl⟩, trivial⟩ ⟨osrc_arr (b := 3) rfl rfl rfl rfl hclc, osrc_arr (b := 4) rfl rfl rfl rfl hces, trivial⟩ ⟨.refl _, trivial⟩
      · rw [gm, g1]; rfl
      · rw [ge, ← g1, hep]
    | cons b r =>
      have L1 := len_split g1
      try simp only [List.length_cons, List.length_nil] at L1
      have hcd : iLt i (lenA ep) = true := lt_t e_iLt e_lenA (by omega)
      have ha := el_at e_atA hep g1 gi
      have hbenc : Bat.enc b = .agg [int b.epoch, .isl 3 (mapE Chg.enc b.cs)] := rfl
      have P53b := P53b b (by rw [g1]; simp)
      have hcb := closedC b.cs
      have hclb : AV.closedL (mapE Chg.enc b.cs) = true := closed_mapE Chg.closed _
      have hebl : (mapE Chg.enc b.cs).length = b.cs.length := mapE_len _ _
      rw [hbenc] at ha
      generalize hbs : mapE Chg.enc b.cs = ebs at ha hbenc P53b hcb hclb hebl
      generalize hbn : b.cs.length = bn at P53b hebl
      generalize hbe : b.epoch = be at ha hbenc
      refine go rfl hX 1 (by conv => lhs; cbv; simp only [hcd,ha]; cbv; simp only [hcd,ha]; cbv) ?_ ?_
      · first | exact trivial | (simp only [Cd.ok, ee]; and_intros <;> first | omega | rfl | (simp <;> omega))
      refine tr_drawB rfl (by conv => lhs; cbv) rfl ?_
      refine tr_go hX (by conv => lhs; cbv) ?_ ?_
      · first | exact trivial | (simp only [Cd.ok, ee]; and_intros <;> first | omega | rfl | (simp <;> omega))
      refine tr_ocall (v' := .sl 6 3 0 bn) (H' := [.arr 3 ebs]) rfl rfl rfl P53b (closed1 hcb) rfl (arr_sh hclb) ?_
      refine tr_go hX (by conv => lhs; cbv) ?_ ?_
      · first | exact trivial | (simp only [Cd.ok, ee]; and_intros <;> first | omega | rfl | (simp <;> omega))
      refine tr_nil ⟨rfl, ?_, ?_⟩
      · simp only [LooksL, lookAll, List.append, List.cons_append, List.nil_append, List.append_nil]; and_intros <;> first | trivial | (intro hp; first | rfl | exact absurd (show false = true from hp) Bool.false_ne_true)
      refine go rfl hX 0 (by conv => lhs; cbv) ?_ ?_
      · first | exact trivial | (simp only [Cd.ok, ee]; and_intros <;> first | omega | rfl | (simp <;> omega))
      refine loopP_next (d ++ [b], r, iAdd .i64 i 1, m + 1, mapE Bat.enc (d ++ [b])) ⟨by simp [g1], ?_, by simp [gm], rfl⟩ (by simp)
        (ent_sub [.to 0, .to 1, .to 2, .to 3, .gone, .gone, .isl 3 ebs, .gone, .to 4] [some 0, some 1, some 2, some 3, some 8] ⟨⟨by simp, rfl⟩, ⟨by simp, rfl⟩, ⟨by simp, rfl⟩, ⟨by simp, rfl⟩, trivial, trivial, ⟨ebs, rfl, (subL_closed _ hclb).symm⟩, trivial, ⟨by simp, rfl⟩, trivial⟩
          ⟨osrc_cells (b := 0) rfl rfl rfl ⟨.refl _, .cl hcom, .cl hcp, trivial⟩, osrc_cells (b := 1) rfl rfl rfl ⟨.refl _, .refl _, .refl _, trivial⟩, osrc_cells (b := 2) rfl rfl rfl ⟨.refl _, .refl _, .of ?_, trivial⟩, osrc_arr (b := 3) rfl rfl rfl rfl hclc, osrc_arrS (b := 8) rfl rfl rfl ?_, trivial⟩ ⟨.refl _, .refl _, .cl hcp, .refl _, .refl _, .refl _, trivial⟩)
      · simp only [List.length_append, List.length_cons, List.length_nil]; exact inc_w e_iAdd gi (by omega)
      · simp only [ee]; rfl
      · simp only [ee]
        show AV.subL _ (es.drop 0 ++ [AV.agg [.val (.int .i64 be), .sl 6 3 0 bn]]) = _
        rw [List.drop_zero, subL_append, subL_closed _ hces, ge, ← mapE_snoc, hbenc]
        congr 1
        show [AV.agg [_, AV.sub _ (.sl 6 3 0 bn)]] = _
        rw [sub_whole (es := ebs) rfl hebl.symm]
        rfl
  · refine tr_go hX (by conv => lhs; cbv) ?_ ?_
    · first | exact trivial | (simp only [Cd.ok, ee]; and_intros <;> first | omega | rfl | (simp <;> omega))
    refine tr_ocall (v' := .sl 2 3 0 cn) (H' := [.arr 3 ec]) rfl rfl rfl P53c (closed1 hcom) rfl (arr_sh hclc) ?_
    refine tr_go hX (by conv => lhs; cbv) ?_ ?_
    · first | exact trivial | (simp only [Cd.ok, ee]; and_intros <;> first | omega | rfl | (simp <;> omega))
    refine tr_nil ⟨by simp [effLab], ?_, ?_⟩
    · simp only [LooksP, lookAll, List.append, List.cons_append, List.nil_append, List.append_nil]; and_intros <;> first | trivial | (intro hp; first | rfl | exact absurd (show false = true from hp) Bool.false_ne_true)
    refine ent_sub [.to 0, .to 1, .to 3, .to 2] [some 0, some 1, some 3, some 2] ⟨⟨by simp, rfl⟩, ⟨by simp, rfl⟩, ⟨by simp, rfl⟩, ⟨by simp, rfl⟩, trivial⟩
      ⟨osrc_cells (b := 0) rfl rfl rfl ⟨.refl _, .cl hcom, .cl hcp, trivial⟩, osrc_cells (b := 1) rfl rfl rfl ⟨.refl _, .refl _, .refl _, trivial⟩, osrc_cells (b := 3) rfl rfl rfl ⟨.refl _, .refl _, .refl _, trivial⟩, osrc_arr (b := 2) rfl rfl rfl rfl hclc, trivial⟩ ⟨.refl _, .refl _, .refl _, trivial⟩
  · refine tr_go hX (by conv => lhs; cbv) ?_ ?_
    · first | exact trivial | (simp only [Cd.ok, ee]; and_intros <;> first | omega | rfl | (simp <;> omega))
    refine tr_ocall (v' := .sl 3 3 0 cn) (H' := [.arr 3 ec]) rfl rfl rfl P53c (closed1 hcom) rfl (arr_sh hclc) ?_
    refine tr_go hX (by conv => lhs; cbv) ?_ ?_
    · first | exact trivial | (simp only [Cd.ok, ee]; and_intros <;> first | omega | rfl | (simp <;> omega))
    refine tr_nil ⟨by simp [effLab], ?_, ?_⟩
    · simp only [LooksP, lookAll, List.append, List.cons_append, List.nil_append, List.append_nil]; and_intros <;> first | trivial | (intro hp; first | rfl | exact absurd (show false = true from hp) Bool.false_ne_true)
    refine ent_fw ⟨.refl _, .refl _, .refl _, trivial⟩
end Go.Am
end
section
set_option linter.unusedVariables false
set_option linter.unusedSimpArgs false
set_option maxRecDepth 20000
namespace Go.Am
open Go.Proofs

theorem bats_gt (e : Int) : ∀ (l : List Bat) (p : Int), batsF e (some p) l = 0 → ∀ x ∈ l, p < x.epoch
  | [], p, h, x, hx => by cases hx
  | b :: r, p, h, x, hx => by
    simp only [batsF] at h
    split at h
    · rename_i hb; exact absurd h hb
    · rename_i hb
      have hb : batchF e (some p) b = 0 := Decidable.not_not.1 hb
      have hpb : p < b.epoch := by
        unfold batchF at hb
        split at hb
        · omega
        · split at hb
          · omega
          · rename_i h2; have : ¬ b.epoch ≤ p := fun h => h2 ⟨p, rfl, h⟩; omega
      rcases List.mem_cons.1 hx with rfl | hx
      · exact hpb
      · have := bats_gt e r b.epoch h x hx; omega
theorem bats_tail {e : Int} {p : Option Int} {b : Bat} {r : List Bat} (h : batsF e p (b :: r) = 0) : batchF e p b = 0 ∧ batsF e (some b.epoch) r = 0 := by
  simp only [batsF] at h
  split at h
  · rename_i hb; exact absurd h hb
  · rename_i hb; exact ⟨Decidable.not_not.1 hb, h⟩
theorem sorted_split (se e : Int) : ∀ (l : List Bat) (p : Option Int), batsF se p l = 0 → l = upto e l ++ beyond e l
  | [], _, _ => rfl
  | b :: r, p, h => by
    obtain ⟨_, h2⟩ := bats_tail h
    have hgt := bats_gt se r b.epoch h2
    by_cases hb : b.epoch ≤ e
    · have := sorted_split se e r _ h2
      have e1 : upto e (b :: r) = b :: upto e r := by simp [upto, hb]
      have e2 : beyond e (b :: r) = beyond e r := by simp [beyond, hb]
      rw [e1, e2, List.cons_append, ← this]
    · have e1 : upto e (b :: r) = [] := by
        unfold upto; rw [List.filter_eq_nil_iff]
        intro x hx
        rcases List.mem_cons.1 hx with rfl | hx
        · simpa using hb
        · have := hgt x hx; simp; omega
      have e2 : beyond e (b :: r) = b :: r := by
        unfold beyond; rw [List.filter_eq_self]
        intro x hx
        rcases List.mem_cons.1 hx with rfl | hx
        · simpa using hb
        · have := hgt x hx; simp; omega
      rw [e1, e2]; rfl
theorem upto_mem {e : Int} {l : List Bat} {b : Bat} (h : b ∈ upto e l) : b.epoch ≤ e := by simpa using (List.mem_filter.1 h).2
theorem beyond_mem {e : Int} {l : List Bat} {b : Bat} (h : b ∈ beyond e l) : e < b.epoch := by have := (List.mem_filter.1 h).2; simpa using this
theorem sub_part {σ : Nat → Sub} {b k lo n : Nat} {es es' : List AV} (hs : σ b = .isl k es) (hn : lo + n ≤ es.length) (he : (es.drop lo).take n = es') : (AV.sl b k lo n).sub σ = .isl k es' := by
  simp only [AV.sub, hs, Nat.beq_refl, Bool.true_and]
  rw [Nat.ble_eq_true_of_le hn, cond_true, he]

set_option maxHeartbeats 1000000 in
theorem P26 (s : Snk) (e : Int) (hf : s.Fine) (hc : countF s < 500000000000) : PCall EE 26 [s.enc, int e] (.tup [(abortF s e).1.enc, int (abortF s e).2]) := by
  have P12c := P12 s hf (by omega)
  have hok := fun h : checkF s = 0 => check_ok h
  have hsum : s.com.length ≤ countF s ∧ ∀ b ∈ s.pend, b.cs.length ≤ countF s := by
    unfold countF
    refine ⟨by omega, fun b hb => ?_⟩
    obtain ⟨d, r, hd⟩ := List.append_of_mem hb
    rw [hd, sumL_append]; simp [sumL]; omega
  have P42c := fun h : checkF s = 0 => P42 s (by have := (hok h).2.2.1; omega) (by omega) (fun b hb => by have := hsum.2 b hb; omega)
  have hspl := fun h : checkF s = 0 => sorted_split s.epoch e s.pend none (hok h).2.2.2.2.1
  have P43c := fun h : checkF s = 0 => P43 s.pend (upto e s.pend) (beyond e s.pend) (e + 1) (hspl h) hf.pend (fun b hb => by have := upto_mem hb; omega) (fun b hb => by have := beyond_mem hb; omega)
  have hcl := Snk.closed s
  have hcom := closedC s.com
  have hcp := closedB s.pend
  have hclc : AV.closedL (mapE Chg.enc s.com) = true := closed_mapE Chg.closed _
  have hclp : AV.closedL (mapE Bat.enc s.pend) = true := closed_mapE Bat.closed _
  have htk : ∀ (l a b : List Bat), l = a ++ b → (mapE Bat.enc l).take a.length = mapE Bat.enc a := by
    rintro l a b rfl
    rw [mapE_eq, mapE_eq, List.map_append, List.take_left' (by simp)]
  have htake := fun h : checkF s = 0 => htk s.pend (upto e s.pend) (beyond e s.pend) (hspl h)
  have hadd : abortF s e = abortF s e := rfl
  unfold abortF at hadd ⊢
  clear hadd
  generalize hck : checkF s = ck at P12c P42c P43c hok hspl htake ⊢
  have henc : s.enc = .agg [int s.epoch, .isl 3 (mapE Chg.enc s.com), .isl 2 (mapE Bat.enc s.pend)] := rfl
  have hres : (⟨s.epoch, s.com, upto e s.pend⟩ : Snk).enc = .agg [int s.epoch, .isl 3 (mapE Chg.enc s.com), .isl 2 (mapE Bat.enc (upto e s.pend))] := rfl
  refine words fun iLt iLe iEq iNe iAdd iSub iMul iQuo iRem iShr iNeg iCvt iMax iMin bNot bEq bNe bAnd bOr sEq sNe sLen sCat sCut sAt lenA lenN iOf natOf atA atN cutA partA dropA catA setA repA putA idxN addN subN minN lenCut hX e_iLt e_iLe e_iEq e_iNe e_iAdd e_iSub e_iMul e_iQuo e_iRem e_iShr e_iNeg e_iCvt e_iMax e_iMin e_bNot e_bEq e_bNe e_bAnd e_bOr e_sEq e_sNe e_sLen e_sCat e_sCut e_sAt e_lenA e_lenN e_iOf e_natOf e_atA e_atN e_cutA e_partA e_dropA e_catA e_setA e_repA e_putA e_idxN e_addN e_subN e_minN e_lenCut ee => ?_
  rw [henc] at P12c P42c hcl ⊢
  generalize hec : mapE Chg.enc s.com = ec at P12c P42c hcl henc hcom hclc hres ⊢
  generalize hep : mapE Bat.enc s.pend = ep at P12c P42c P43c hcl henc hcp hclp htake ⊢
  have hpl : ep.length = s.pend.length := by rw [← hep, mapE_len]
  have hcl2 : ec.length = s.com.length := by rw [← hec, mapE_len]
  generalize hsp : s.epoch = se at *
  refine fn_body (fn := Try.f26) (n := 41) (ac := Tryc26) (rvs := [.cell 4 3 true, .t 5]) rfl (by decide) Tryp26 rfl rfl rfl ?_
  refine go rfl hX 0 (by conv => lhs; cbv) ?_ ?_
  · first | exact trivial | (simp only [Cd.ok, ee]; and_intros <;> first | omega | rfl | (simp <;> omega))
  refine on_pcall rfl rfl rfl P12c (closed1 hcl) ?_
  refine go rfl hX 0 (by conv => lhs; cbv) ?_ ?_
  · first | exact trivial | (simp only [Cd.ok, ee]; and_intros <;> first | omega | rfl | (simp <;> omega))
  refine on_cond rfl (fun h1 => ?_) (fun h1 => ?_)
  · simp [ee, decide_eq_true_eq, decide_eq_false_iff_not, Bool.and_eq_true, Bool.or_eq_true, Bool.not_eq_true', Bool.not_eq_false', Bool.and_eq_false_iff, Bool.or_eq_false_iff, bne_iff_ne, beq_iff_eq, beq_eq_false_iff_ne, bne_eq_false_iff_eq, ne_eq, Int.not_lt, Int.not_le, Decidable.not_not] at h1
    rw [if_pos h1]
    refine go rfl hX 0 (by conv => lhs; cbv) ?_ ?_
    · first | exact trivial | (simp only [Cd.ok, ee]; and_intros <;> first | omega | rfl | (simp <;> omega))
    exact fn_ret rfl rfl fz0
  simp [ee, decide_eq_true_eq, decide_eq_false_iff_not, Bool.and_eq_true, Bool.or_eq_true, Bool.not_eq_true', Bool.not_eq_false', Bool.and_eq_false_iff, Bool.or_eq_false_iff, bne_iff_ne, beq_iff_eq, beq_eq_false_iff_ne, bne_eq_false_iff_eq, ne_eq, Int.not_lt, Int.not_le, Decidable.not_not] at h1
  subst h1
  rw [if_neg (by simp)]
  have P42c := P42c rfl
  have P43c := P43c rfl
  have hspl := hspl rfl
  have htake := htake rfl
  have hok := hok rfl
  have hul : (upto e s.pend).length ≤ s.pend.length := List.length_filter_le _ _
  generalize hfd : foundF (e + 1) (beyond e s.pend) = fd at P43c
  generalize hdn : (upto e s.pend).length = dn at *
  generalize hcn : s.com.length = cn at *
  generalize hpn : s.pend.length = pn at *
  refine go rfl hX 0 (by conv => lhs; cbv) ?_ ?_
  · first | exact trivial | (simp only [Cd.ok, ee]; and_intros <;> first | omega | rfl | (simp <;> omega))
  refine on_cond rfl (fun h2 => ?_) (fun h2 => ?_)
  · simp [ee, decide_eq_true_eq, decide_eq_false_iff_not, Bool.and_eq_true, Bool.or_eq_true, Bool.not_eq_true', Bool.not_eq_false', Bool.and_eq_false_iff, Bool.or_eq_false_iff, bne_iff_ne, beq_iff_eq, beq_eq_false_iff_ne, bne_eq_false_iff_eq, ne_eq, Int.not_lt, Int.not_le, Decidable.not_not] at h2
    rw [if_pos (by omega)]
    refine go rfl hX 0 (by conv => lhs; cbv) ?_ ?_
    · first | exact trivial | (simp only [Cd.ok, ee]; and_intros <;> first | omega | rfl | (simp <;> omega))
    exact fn_ret rfl rfl fz0
  simp [ee, decide_eq_true_eq, decide_eq_false_iff_not, Bool.and_eq_true, Bool.or_eq_true, Bool.not_eq_true', Bool.not_eq_false', Bool.and_eq_false_iff, Bool.or_eq_false_iff, bne_iff_ne, beq_iff_eq, beq_eq_false_iff_ne, bne_eq_false_iff_eq, ne_eq, Int.not_lt, Int.not_le, Decidable.not_not] at h2
  rw [if_neg (by omega)]
  have hadd1 : iAdd .i64 e 1 = e + 1 := add_w e_iAdd (by omega) (by omega)
  generalize he1 : e + 1 = e' at hadd1 P43c
  refine go rfl hX 0 (by conv => lhs; cbv) ?_ ?_
  · first | exact trivial | (simp only [Cd.ok, ee]; and_intros <;> first | omega | rfl | (simp <;> omega))
  refine on_ocall (v' := .agg [int se, .sl 2 3 0 cn, .sl 3 2 0 pn]) (H' := [.arr 3 ec, .arr 2 ep]) rfl rfl rfl P42c (closed1 hcl) rfl (by simp [AObj.sub, subL_closed _ hclc, subL_closed _ hclp]) ?_
  refine go rfl hX 0 (by conv => lhs; cbv) ?_ ?_
  · first | exact trivial | (simp only [Cd.ok, ee]; and_intros <;> first | omega | rfl | (simp <;> omega))
  generalize hdI : (dn : Int) = dI at P43c
  refine on_lcall (args := [.sl 3 2 0 pn, int (iAdd .i64 e 1)]) (args' := [.isl 2 ep, int e']) [.gone, .gone, .isl 3 ec, .isl 2 ep, .gone] rfl rfl rfl ⟨trivial, trivial, ⟨ec, rfl, (subL_closed _ hclc).symm⟩, ⟨ep, rfl, (subL_closed _ hclp).symm⟩, trivial, trivial⟩ ?_ P43c rfl ?_
  · rw [hadd1]
    show [AV.sub _ (.sl 3 2 0 pn), _] = _
    rw [sub_whole (es := ep) rfl hpl.symm]
    rfl
  refine go rfl hX 0 (by conv => lhs; cbv) ?_ ?_
  · first | exact trivial | (simp only [Cd.ok, ee]; and_intros <;> first | omega | rfl | (simp <;> omega))
  have e1 : idxN 0 0 = 0 := by simp [ee]
  have e2 : lenCut 0 dI = dn := by simp [ee, ← hdI]
  rw [e1, e2]
  refine fn_ret rfl rfl ⟨[.gone, .gone, .isl 3 ec, .isl 2 ep, .gone], ⟨trivial, trivial, ⟨ec, rfl, (subL_closed _ hclc).symm⟩, ⟨ep, rfl, (subL_closed _ hclp).symm⟩, trivial, trivial⟩, ?_⟩
  rw [hres]
  exact .tup' ⟨.agg' ⟨.refl _, .of (sub_whole rfl hcl2.symm), .of (sub_part rfl (by omega) (by rw [List.drop_zero]; exact htake)), trivial⟩, .refl _, trivial⟩
end Go.Am
end
section
set_option linter.unusedVariables false
set_option linter.unusedSimpArgs false
set_option maxRecDepth 20000
namespace Go.Am
open Go.Proofs

theorem P51z (Z : AObj) (bs : List Bat) (hbs : Short bs) (hcs : ∀ b ∈ bs, Short b.cs) (A B C : List Chg → AObj) (Lp : AObj) (H0 : AHeap) (hN : H0.length = 4) (h0 : HEnt EE 4 3 H0 [Z, A [], B [], Lp, C []]) (hb : ∀ d, ∀ o ∈ [Z, A d, B d, Lp, C d], o.sub (keepS 5) = o)
    (hy : ∀ d c r, pendF bs = d ++ c :: r → AYield EE 3 [c.enc] [Z, A d, B d, Lp, C d] (fun v H' => v = .val (.bool true) ∧ HEnt EE 4 3 H' [Z, A (d ++ [c]), B (d ++ [c]), Lp, C (d ++ [c])])) :
    ACall EE 51 [.yld 3, .iptr [.isl 2 (mapE Bat.enc bs)]] H0 (fun _ H' => H' = [Z, A (pendF bs), B (pendF bs), Lp, C (pendF bs)]) := by
  unfold Short at hbs
  refine words fun iLt iLe iEq iNe iAdd iSub iMul iQuo iRem iShr iNeg iCvt iMax iMin bNot bEq bNe bAnd bOr sEq sNe sLen sCat sCut sAt lenA lenN iOf natOf atA atN cutA partA dropA catA setA repA putA idxN addN subN minN lenCut hX e_iLt e_iLe e_iEq e_iNe e_iAdd e_iSub e_iMul e_iQuo e_iRem e_iShr e_iNeg e_iCvt e_iMax e_iMin e_bNot e_bEq e_bNe e_bAnd e_bOr e_sEq e_sNe e_sLen e_sCat e_sCut e_sAt e_lenA e_lenN e_iOf e_natOf e_atA e_atN e_cutA e_partA e_dropA e_catA e_setA e_repA e_putA e_idxN e_addN e_subN e_minN e_lenCut ee => ?_
  have hclo := closedB bs
  generalize hes : mapE Bat.enc bs = es at *
  have hel : es.length = bs.length := by rw [← hes, mapE_len]
  have hcl1 : (AV.iptr [.isl 2 es]).closed = true := closed1 hclo
  have hbt : bNot true = false := by rw [e_bNot]; rfl
  refine rcall_body (fn := Try.f51) (n := 26) (ac := Tryc51) (rvs := []) rfl Tryp51 rfl rfl rfl ?_
  rw [hN]
  refine on_ent (h0.ent (F' := [(0, .yld 3), (1, .iptr [.isl 2 es])]) ⟨.refl _, .cl hcl1, trivial⟩) ?_
  refine go rfl hX 0 (by conv => lhs; cbv) ?_ ?_
  · first | exact trivial | (simp only [Cd.ok, ee]; and_intros <;> first | omega | rfl | (simp <;> omega))
  refine on_loopP (ι := List Bat × List Bat × Int × List Chg) (fun p => ([(9, int p.2.2.1), (8, int (lenA es)), (7, .isl 2 es), (0, .yld 3)], [Z, A p.2.2.2, B p.2.2.2, Lp, C p.2.2.2])) (fun p => bs = p.1 ++ p.2.1 ∧ p.2.2.1 = p.1.length ∧ p.2.2.2 = pendF p.1) (fun p => p.2.1.length) ([], bs, 0, []) ⟨rfl, rfl, rfl⟩ (ent_fw ⟨.refl _, .refl _, .refl _, .refl _, trivial⟩) ?_
  rintro ⟨d, r, i, o⟩ ⟨g1, gi, gof⟩
  dsimp only at g1 gi gof ⊢
  cases r with
  | nil =>
    have L1 := len_split g1
    try simp only [List.length_cons, List.length_nil] at L1
    have hc : iLt i (lenA es) = false := lt_f e_iLt e_lenA (by omega)
    refine go rfl hX 1 (by conv => lhs; cbv; simp only [hc]; cbv) ?_ ?_
    · first | exact trivial | (simp only [Cd.ok, ee]; and_intros <;> first | omega | rfl | (simp <;> omega))
    refine loopP_exit ?_
    refine go rfl hX 0 (by conv => lhs; cbv) ?_ ?_
    · first | exact trivial | (simp only [Cd.ok, ee]; and_intros <;> first | omega | rfl | (simp <;> omega))
    rw [List.append_nil] at g1
    exact o_norm (.refl _ _ _ _ _) rfl (by rw [g1, gof])
  | cons b r =>
    have L1 := len_split g1
    try simp only [List.length_cons, List.length_nil] at L1
    have hc : iLt i (lenA es) = true := lt_t e_iLt e_lenA (by omega)
    have hat := el_at e_atA hes g1 gi
    dsimp only [Bat.enc] at hat
    have hcb := closedC b.cs
    have hbm := hcs b (by rw [g1]; simp)
    unfold Short at hbm
    generalize hebs : mapE Chg.enc b.cs = ebs at hat hcb
    have hebl : ebs.length = b.cs.length := by rw [← hebs, mapE_len]
    refine go rfl hX 1 (by conv => lhs; cbv; simp only [hc,hat]; cbv; simp only [hc,hat]; cbv) ?_ ?_
    · first | exact trivial | (simp only [Cd.ok, ee]; and_intros <;> first | omega | rfl | (simp <;> omega))
    refine on_loopP (ι := List Chg × List Chg × Int × List Chg) (fun p => ([(16, int p.2.2.1), (15, int (lenA ebs)), (14, .isl 3 ebs), (9, int i), (8, int (lenA es)), (7, .isl 2 es), (0, .yld 3)], [Z, A p.2.2.2, B p.2.2.2, Lp, C p.2.2.2])) (fun p => b.cs = p.1 ++ p.2.1 ∧ p.2.2.1 = p.1.length ∧ p.2.2.2 = o ++ p.1) (fun p => p.2.1.length) ([], b.cs, 0, o) ⟨rfl, rfl, by simp⟩
      (ent_drop (H := [Z, A o, B o, Lp, C o]) (X := [_]) (hb o) (by simp) ⟨.refl _, .refl _, .cl hcb, .refl _, .refl _, .cl hclo, .refl _, trivial⟩) ?_
    rintro ⟨dc, rc, j, o2⟩ ⟨k1, kj, ko⟩
    dsimp only at k1 kj ko ⊢
    cases rc with
    | nil =>
      have L2 := len_split k1
      try simp only [List.length_cons, List.length_nil] at L2
      have hc2 : iLt j (lenA ebs) = false := lt_f e_iLt e_lenA (by omega)
      refine go rfl hX 1 (by conv => lhs; cbv; simp only [hc2]; cbv) ?_ ?_
      · first | exact trivial | (simp only [Cd.ok, ee]; and_intros <;> first | omega | rfl | (simp <;> omega))
      refine loopP_exit ?_
      refine go rfl hX 0 (by conv => lhs; cbv) ?_ ?_
      · first | exact trivial | (simp only [Cd.ok, ee]; and_intros <;> first | omega | rfl | (simp <;> omega))
      rw [List.append_nil] at k1
      refine loopP_next (d ++ [b], r, iAdd .i64 i 1, o2) ⟨by simp [g1], ?_, by dsimp only; rw [ko, gof, pendF_append]; simp [pendF, k1]⟩ (by simp) (ent_fw ⟨.refl _, .refl _, .refl _, .refl _, trivial⟩)
      simp only [List.length_append, List.length_cons, List.length_nil]; exact inc_w e_iAdd gi (by omega)
    | cons c rc =>
      have L2 := len_split k1
      try simp only [List.length_cons, List.length_nil] at L2
      have hc2 : iLt j (lenA ebs) = true := lt_t e_iLt e_lenA (by omega)
      have hat2 := el_at e_atA hebs k1 kj
      have hce : c.enc.closed = true := Chg.closed c
      have hyc := hy o2 c (rc ++ pendF r) (by rw [g1, pendF_append, ko, gof]; simp [pendF, k1])
      have hcenc : c.enc = .agg [int c.sign, int c.query, .isl 4 (mapE Bnd.enc c.bs)] := rfl
      rw [hcenc] at hat2 hce hyc
      generalize mapE Bnd.enc c.bs = ebn at hat2 hce hyc
      generalize c.sign = sg at hat2 hce hyc
      generalize c.query = qu at hat2 hce hyc
      refine go rfl hX 1 (by conv => lhs; cbv; simp only [hc2,hat2]; cbv; simp only [hc2,hat2]; cbv) ?_ ?_
      · first | exact trivial | (simp only [Cd.ok, ee]; and_intros <;> first | omega | rfl | (simp <;> omega))
      refine on_drop (H := [Z, A o2, B o2, Lp, C o2]) (X := [_]) (F' := [(21, .agg [int sg, int qu, .isl 4 ebn]), (20, .yld 3), (16, int j), (15, int (lenA ebs)), (14, .isl 3 ebs), (9, int i), (8, int (lenA es)), (7, .isl 2 es), (0, .yld 3)]) (hb o2) (by simp) ⟨.cl hce, .refl _, .refl _, .refl _, .cl hcb, .refl _, .refl _, .cl hclo, .refl _, trivial⟩ ?_
      refine on_callv rfl rfl rfl rfl hyc ?_
      rintro v H1 ⟨rfl, he⟩
      refine on_entO (he.ent (F' := [(22, .val (.bool true)), (16, int j), (15, int (lenA ebs)), (14, .isl 3 ebs), (9, int i), (8, int (lenA es)), (7, .isl 2 es), (0, .yld 3)]) ⟨.refl _, .refl _, .refl _, .cl hcb, .refl _, .refl _, .cl hclo, .refl _, trivial⟩) ?_
      have ho2 : o2 ++ [c] = o ++ (dc ++ [c]) := by rw [ko, List.append_assoc]
      generalize hoo : o2 ++ [c] = o3 at ho2 ⊢
      refine go rfl hX 1 (by conv => lhs; cbv; simp only [hbt]; cbv) ?_ ?_
      · first | exact trivial | (simp only [Cd.ok, ee]; and_intros <;> first | omega | rfl | (simp <;> omega))
      refine loopP_next (dc ++ [c], rc, iAdd .i64 j 1, o3) ⟨by simp [k1], ?_, ho2⟩ (by simp) (ent_fw ⟨.refl _, .refl _, .refl _, .refl _, .refl _, .refl _, .refl _, trivial⟩)
      simp only [List.length_append, List.length_cons, List.length_nil]; exact inc_w e_iAdd kj (by omega)
end Go.Am
end
