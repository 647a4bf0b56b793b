/- Contracts of the program's functions, for every argument that meets the conditions that each theorem names. -/
import Derived.Test.YtdbikeconboifaaDoorAm6
import Derived.Test.YtdbikeconboifaaDoorCt5
import Derived.Test.YtdbikeconboifaaDoorCt4
section
set_option linter.unusedVariables false
set_option linter.unusedSimpArgs false
set_option maxRecDepth 20000
namespace Go.Am
open Go.Proofs
set_option maxHeartbeats 16000000 in
theorem P_lawTurns (p : Pat) (b : Int) (hb : 0 ≤ b ∧ b < 256) (hs : p.Sm) : PCall EE 6 [p.enc, u8 b] (bool true) := by
  have q1 := P_ref09_Few p hs
  have q2 := P_awake
  have q3 := P_CheckRest p hs
  have T1 := rot_turn b
  have T2 := rot_turn2 b
  have q4 := P_pattern_Rename (rotT b 16) p hs (by rw [T1.lt]; decide)
  have htp := fun h => turn_p T1 (p := p) h
  have htq := fun h => turn_p T2 (p := p.ren (rotT b 16)) h
  have hxs := Pat.ren_sm (to := rotT b 16) hs
  have q5 := P_pattern_Rename (rotB b 16) (p.ren (rotT b 16)) hxs (by rw [T2.lt]; decide)
  have hbk : p.chkR = 0 → (p.ren (rotT b 16)).ren (rotB b 16) = p := fun h => Pat.ren_back T1 T2 p (chkR_nodes h)
  have q6 := P_pattern_Same p p hs
  rw [eqB_t rfl] at q6
  have q7 := P_Bound p hs
  have q8 := P_Bound (p.ren (rotT b 16)) hxs
  have hbd := fun h => turn_bnd T1 (p := p) h
  have hrg : ∀ v, 0 ≤ v → v < 16 → (rotT b 16).getD v.toNat 0 = (v + b) % 16 := fun v h0 h1 => rotT_get b h0 h1
  have kc1 := Pat.closed p
  have kc2 := Pat.closed (p.ren (rotT b 16))
  have hbl : p.bound.length ≤ 1048576 := by
    have := compact_le (sortI (bndF p.nodes)); rw [sort_len] at this
    have := bndF_len p.nodes; have := Pat.nodes_len p; have := hs.1
    unfold Pat.bound; omega
  generalize hxp : p.ren (rotT b 16) = x at *
  have hsu1 := rotT_succ b
  have hsu2 := rotB_succ b
  obtain ⟨pO, pA, pT, pV, pS, pN, pCo, pCa, pCv, pCf, pCk, pXk, pXn, pXt, hx⟩ := Pat.form p
  obtain ⟨xO, xA, xT, xV, xS, xN, xCo, xCa, xCv, xCf, xCk, xXk, xXn, xXt, hx2⟩ := Pat.form x
  obtain ⟨fw, hfw⟩ : ∃ fw, p.few = fw := ⟨_, rfl⟩
  rw [hfw] at q1
  have hnil : mapE int [] = [] := by rw [mapE_eq]; rfl
  refine words fun iLt iLe iEq iNe iAdd iSub iMul iQuo iRem iShr iNeg iCvt iMax iMin bNot bEq bNe bAnd bOr sEq sNe sLen sCat sCut sAt lenA lenN iOf natOf atA atN cutA partA dropA catA setA repA putA idxN addN subN minN lenCut rowA hX e_iLt e_iLe e_iEq e_iNe e_iAdd e_iSub e_iMul e_iQuo e_iRem e_iShr e_iNeg e_iCvt e_iMax e_iMin e_bNot e_bEq e_bNe e_bAnd e_bOr e_sEq e_sNe e_sLen e_sCat e_sCut e_sAt e_lenA e_lenN e_iOf e_natOf e_atA e_atN e_cutA e_partA e_dropA e_catA e_setA e_repA e_putA e_idxN e_addN e_subN e_minN e_lenCut e_rowA ee => ?_
  rw [hx] at q1 q3 q7 kc1 ⊢
  refine fn_body (fn := Tryd.f6) (n := 126) (ac := Trydc6) (rvs := [.t 4]) rfl (by decide) Trydp6 rfl rfl rfl ?_
  cases fw with
  | false =>
    clear q4 q5
    generalize p.chkR = ck at *
    refine goA 60 ?_
    refine on_pcall (args := [AV.agg [int pO, AV.isl 14 pA, int pT, int pV, int pS, int pN, int pCo, AV.isl 8 pCa, int pCv, int pCf, int pCk, int pXk, int pXn, str pXt]]) rfl rfl rfl q1 (by simp [AV.closedL, closed_v, closed_agg, closed_fn, closed_iptr, kc1]) ?_
    refine goA 0 ?_
    refine on_guard rfl rfl (fun c1 => ?_) (fun c1 => ?_)
    ·
      simp [ee] at c1
      refine goA 60 ?_
      refine on_gskip rfl rfl ?_
      refine goA 60 ?_
      refine on_pcall (args := []) rfl rfl rfl q2 rfl ?_
      refine goA 60 ?_
      refine fn_ret rfl rfl (.val ?_)
      rfl
    ·
      simp [ee] at c1
  | true =>
  by_cases hck : p.chkR = 0
  rotate_left
  · have k1 : iNe p.chkR 0 = true := by simp only [ee]; simpa using hck
    clear htp htq q4 q5 hbk hbd
    generalize p.chkR = ck at *
    refine goA 60 ?_
    refine on_pcall (args := [AV.agg [int pO, AV.isl 14 pA, int pT, int pV, int pS, int pN, int pCo, AV.isl 8 pCa, int pCv, int pCf, int pCk, int pXk, int pXn, str pXt]]) rfl rfl rfl q1 (by simp [AV.closedL, closed_v, closed_agg, closed_fn, closed_iptr, kc1]) ?_
    refine goB hX 0 (by conv => lhs; cbv; try simp only [k1]; cbv; try simp only [k1]; cbv; try simp only [k1]; cbv; try simp only [k1]; cbv) ?_
    refine on_guard rfl rfl (fun c1 => ?_) (fun c1 => ?_)
    ·
      simp [ee] at c1
    ·
      simp [ee] at c1
      refine goA 60 ?_
      refine on_gpcall (args := [AV.agg [int pO, AV.isl 14 pA, int pT, int pV, int pS, int pN, int pCo, AV.isl 8 pCa, int pCv, int pCf, int pCk, int pXk, int pXn, str pXt]]) rfl rfl rfl rfl q3 (by simp [AV.closedL, closed_v, closed_agg, closed_fn, closed_iptr, kc1]) ?_
      refine goB hX 0 (by conv => lhs; cbv; try simp only [k1]; cbv; try simp only [k1]; cbv; try simp only [k1]; cbv; try simp only [k1]; cbv) ?_
      refine on_cond rfl (fun c2 => ?_) (fun c2 => ?_)
      ·
        simp [ee] at c2
        refine goA 60 ?_
        refine on_pcall (args := []) rfl rfl rfl q2 rfl ?_
        refine goA 60 ?_
        refine fn_ret rfl rfl (.val ?_)
        rfl
      ·
        simp [ee] at c2
  have k1 : iNe 0 0 = false := by simp only [ee]; simp
  obtain ⟨t1, t2, t3⟩ := htp hck
  obtain ⟨t4, t5, t6⟩ := htq t3
  rw [t1, t2, hx, hx2] at q4
  rw [t4, t5, hbk hck, hx, hx2] at q5
  rw [hck] at q3
  rw [hx] at q6
  rw [hx2] at q8 kc2
  obtain ⟨d1, d2⟩ := hbd hck
  clear htp htq hbk hbd t1 t2 t3 t4 t5 t6 hxs hs
  refine goA 60 ?_
  refine on_pcall (args := [AV.agg [int pO, AV.isl 14 pA, int pT, int pV, int pS, int pN, int pCo, AV.isl 8 pCa, int pCv, int pCf, int pCk, int pXk, int pXn, str pXt]]) rfl rfl rfl q1 (by simp [AV.closedL, closed_v, closed_agg, closed_fn, closed_iptr, kc1]) ?_
  refine goB hX 0 (by conv => lhs; cbv; try simp only [k1]; cbv; try simp only [k1]; cbv; try simp only [k1]; cbv; try simp only [k1]; cbv) ?_
  refine on_guard rfl rfl (fun c1 => ?_) (fun c1 => ?_)
  ·
    simp [ee] at c1
  ·
    simp [ee] at c1
    refine goA 60 ?_
    refine on_gpcall (args := [AV.agg [int pO, AV.isl 14 pA, int pT, int pV, int pS, int pN, int pCo, AV.isl 8 pCa, int pCv, int pCf, int pCk, int pXk, int pXn, str pXt]]) rfl rfl rfl rfl q3 (by simp [AV.closedL, closed_v, closed_agg, closed_fn, closed_iptr, kc1]) ?_
    refine goB hX 0 (by conv => lhs; cbv; try simp only [k1]; cbv; try simp only [k1]; cbv; try simp only [k1]; cbv; try simp only [k1]; cbv) ?_
    refine on_cond rfl (fun c2 => ?_) (fun c2 => ?_)
    ·
      simp [ee] at c2
    ·
      simp [ee] at c2
      refine goA 60 ?_
      have hpA : (AV.isl 14 pA).closed = true := by have := kc1; simp [AV.closed, AV.closedL] at this ⊢; exact this.1
      have hpCa : (AV.isl 8 pCa).closed = true := by have := kc1; simp [AV.closed, AV.closedL] at this ⊢; exact this.2
      refine on_loopP (ι := Int × Nat × Nat × List AV × List AV) (fun p => ([(8, int p.1), (7, int 16), (6, .sl 2 1 0 p.2.2.1), (5, .sl 1 1 0 p.2.1), (1, u8 b), (2, .ptr 0 0)], [.cells [int pO, .isl 14 pA, int pT, int pV, int pS, int pN, int pCo, .isl 8 pCa, int pCv, int pCf, int pCk, int pXk, int pXn, str pXt], .arr 1 p.2.2.2.1, .arr 1 p.2.2.2.2])) (fun p => 0 ≤ p.1 ∧ p.1 ≤ 16 ∧ p.2.1 = p.2.2.2.1.length ∧ p.2.2.1 = p.2.2.2.2.length ∧ p.2.2.2.1 = mapE int (rotT b p.1.toNat) ∧ p.2.2.2.2 = mapE int (rotB b p.1.toNat)) (fun p => (16 - p.1).toNat) (0, 0, 0, [], []) ⟨by omega, by omega, rfl, rfl, hnil.symm, hnil.symm⟩ ?_ ?_
      · exact (ent_sub [.to 0] [some 0, none, none] ⟨⟨by simp, rfl⟩, trivial⟩ ⟨osrc_cells (b := 0) rfl rfl rfl ⟨.refl _, .cl hpA, .refl _, .refl _, .refl _, .refl _, .refl _, .cl hpCa, .refl _, .refl _, .refl _, .refl _, .refl _, .refl _, trivial⟩, .none _ rfl, .none _ rfl, trivial⟩ ⟨.refl _, .refl _, .nilS _ _ _ (by simp), .nilS _ _ _ (by simp), .refl _, .refl _, trivial⟩)
      rintro ⟨v, m1, m2, w1, w2⟩ ⟨g0, g1, g2, g3, g4, g5⟩
      dsimp only at g0 g1 g2 g3 g4 g5 ⊢
      have hc1 : AV.closedL w1 = true := by rw [g4]; exact closedL_int _
      have hc2 : AV.closedL w2 = true := by rw [g5]; exact closedL_int _
      have hl1 : w1.length = v.toNat := by rw [g4, mapE_len]; simp [rotT]
      have hl2 : w2.length = v.toNat := by rw [g5, mapE_len]; simp [rotB]
      by_cases hv : v = 16
      rotate_left
      · have kA : iLt v 16 = true := by simp only [ee]; simp; omega
        have ev : iAdd .i64 v 1 = v + 1 := add_w e_iAdd (by omega) (by omega)
        have ex1 : iRem (iAdd .i64 v (iCvt .i64 b)) 16 = (v + b) % 16 := by
          simp only [ee]; rw [wrap64 (x := b) (by omega) (by omega), wrap64 (by omega) (by omega), Int.tmod_eq_emod_of_nonneg (by omega)]
        have ex2 : iRem (iSub .i64 (iAdd .i64 v 16) (iRem (iCvt .i64 b) 16)) 16 = (v + 16 - b % 16) % 16 := by
          have hbm : b.tmod 16 = b % 16 := Int.tmod_eq_emod_of_nonneg hb.1
          simp only [ee]; rw [wrap64 (x := b) (by omega) (by omega), hbm, wrap64 (x := v + 16) (by omega) (by omega), wrap64 (by omega) (by omega), Int.tmod_eq_emod_of_nonneg (by omega)]
        have u1 : catA (dropA w1 0) (partA [int (iRem (iAdd .i64 v (iCvt .i64 b)) 16)] 0 1) = mapE int (rotT b (iAdd .i64 v 1).toNat) := by
          rw [ex1, ev, show (v + 1).toNat = v.toNat + 1 by omega, hsu1, mapE_eq, List.map_append, ← mapE_eq, ← g4, Int.toNat_of_nonneg g0]; simp only [ee]; simp
        have u2 : catA (dropA w2 0) (partA [int (iRem (iSub .i64 (iAdd .i64 v 16) (iRem (iCvt .i64 b) 16)) 16)] 0 1) = mapE int (rotB b (iAdd .i64 v 1).toNat) := by
          rw [ex2, ev, show (v + 1).toNat = v.toNat + 1 by omega, hsu2, mapE_eq, List.map_append, ← mapE_eq, ← g5, Int.toNat_of_nonneg g0]; simp only [ee]; simp
        have v1 : addN m1 (lenN (partA [int (iRem (iAdd .i64 v (iCvt .i64 b)) 16)] 0 1)) = (catA (dropA w1 0) (partA [int (iRem (iAdd .i64 v (iCvt .i64 b)) 16)] 0 1)).length := by simp only [ee]; simp [g2]
        have v2 : addN m2 (lenN (partA [int (iRem (iSub .i64 (iAdd .i64 v 16) (iRem (iCvt .i64 b) 16)) 16)] 0 1)) = (catA (dropA w2 0) (partA [int (iRem (iSub .i64 (iAdd .i64 v 16) (iRem (iCvt .i64 b) 16)) 16)] 0 1)).length := by simp only [ee]; simp [g3]
        have c1 : AV.closedL (catA (dropA w1 0) (partA [int (iRem (iAdd .i64 v (iCvt .i64 b)) 16)] 0 1)) = true := by rw [u1]; exact closedL_int _
        have c2 : AV.closedL (catA (dropA w2 0) (partA [int (iRem (iSub .i64 (iAdd .i64 v 16) (iRem (iCvt .i64 b) 16)) 16)] 0 1)) = true := by rw [u2]; exact closedL_int _
        have hg : (0 ≤ iAdd .i64 v 1 ∧ iAdd .i64 v 1 ≤ 16) ∧ (16 - iAdd .i64 v 1).toNat < (16 - v).toNat := by rw [ev]; omega
        refine goB hX 0 (by conv => lhs; cbv; try simp only [kA]; cbv; try simp only [kA]; cbv; try simp only [kA]; cbv; try simp only [kA]; cbv) ?_
        refine goA 60 ?_
        refine loopP_next (iAdd .i64 v 1, addN m1 (lenN (partA [int (iRem (iAdd .i64 v (iCvt .i64 b)) 16)] 0 1)), addN m2 (lenN (partA [int (iRem (iSub .i64 (iAdd .i64 v 16) (iRem (iCvt .i64 b) 16)) 16)] 0 1)), catA (dropA w1 0) (partA [int (iRem (iAdd .i64 v (iCvt .i64 b)) 16)] 0 1), catA (dropA w2 0) (partA [int (iRem (iSub .i64 (iAdd .i64 v 16) (iRem (iCvt .i64 b) 16)) 16)] 0 1)) ⟨hg.1.1, hg.1.2, v1, v2, u1, u2⟩ hg.2 (ent_sub [.to 0, .gone, .gone, .gone, .to 1, .gone, .to 2] [some 0, some 4, some 6] ⟨⟨by simp, rfl⟩, trivial, trivial, trivial, ⟨by simp, rfl⟩, trivial, ⟨by simp, rfl⟩, trivial⟩ ⟨osrc_cells (b := 0) rfl rfl rfl ⟨.refl _, .cl hpA, .refl _, .refl _, .refl _, .refl _, .refl _, .cl hpCa, .refl _, .refl _, .refl _, .refl _, .refl _, .refl _, trivial⟩, osrc_arr (b := 4) rfl rfl rfl rfl c1, osrc_arr (b := 6) rfl rfl rfl rfl c2, trivial⟩ ⟨.refl _, .refl _, .refl _, .refl _, .refl _, .refl _, trivial⟩)
      subst hv
      have kA : iLt 16 16 = false := by simp only [ee]; simp
      have e16 : (16 : Int).toNat = 16 := rfl
      rw [e16] at g4 g5
      rw [← g4] at q4
      rw [← g5] at q5
      have hI1 : (AV.isl 1 w1).closed = true := by simpa [AV.closed] using hc1
      have hI2 : (AV.isl 1 w2).closed = true := by simpa [AV.closed] using hc2
      refine goB hX 0 (by conv => lhs; cbv; try simp only [kA]; cbv; try simp only [kA]; cbv; try simp only [kA]; cbv; try simp only [kA]; cbv) ?_
      refine on_cond rfl (fun c3 => ?_) (fun c3 => ?_)
      · simp [ee] at c3
      · simp [ee] at c3
        refine goA 60 ?_
        refine loopP_exit ?_
        refine on_ent (F' := [(7, int 16), (6, .isl 1 w2), (5, .isl 1 w1), (1, u8 b), (2, .ptr 0 0)]) (H' := [.cells [int pO, .isl 14 pA, int pT, int pV, int pS, int pN, int pCo, .isl 8 pCa, int pCv, int pCf, int pCk, int pXk, int pXn, str pXt]]) ?_ ?_
        · exact (ent_sub [.to 0, .isl 1 (w1), .isl 1 (w2)] [some 0] ⟨⟨by simp, rfl⟩, ⟨_, rfl, (subL_closed _ hc1).symm⟩, ⟨_, rfl, (subL_closed _ hc2).symm⟩, trivial⟩ ⟨osrc_cells (b := 0) rfl rfl rfl ⟨.refl _, .cl hpA, .refl _, .refl _, .refl _, .refl _, .refl _, .cl hpCa, .refl _, .refl _, .refl _, .refl _, .refl _, .refl _, trivial⟩, trivial⟩ ⟨.refl _, .of (sub_whole rfl (by assumption)), .of (sub_whole rfl (by assumption)), .refl _, .refl _, trivial⟩)
        have hla : (mapE int p.bound).length = p.bound.length := mapE_len ..
        have hlb : (mapE int x.bound).length = x.bound.length := mapE_len ..
        have hca := closedL_int p.bound
        have hcb := closedL_int x.bound
        generalize hal : p.bound = al at *
        generalize hbl2 : x.bound = bl at *
        generalize hwa : mapE int al = wa at *
        generalize hwb : mapE int bl = wb at *
        have hIa : (AV.isl 1 wa).closed = true := by simpa [AV.closed] using hca
        have hIb : (AV.isl 1 wb).closed = true := by simpa [AV.closed] using hcb
        have k9 : iNe (lenA wa) (lenA wb) = false := by simp only [ee]; simp; omega
        refine goA 60 ?_
        refine on_pcall (args := [AV.agg [int pO, AV.isl 14 pA, int pT, int pV, int pS, int pN, int pCo, AV.isl 8 pCa, int pCv, int pCf, int pCk, int pXk, int pXn, str pXt], AV.isl 1 w1]) rfl rfl rfl q4 (by simp [AV.closedL, closed_v, closed_agg, closed_fn, closed_iptr, kc1, kc2, hpA, hpCa, hc1, hc2, hI1, hI2, hca, hcb, hIa, hIb]) ?_
        refine goA 60 ?_
        refine on_pcall (args := [AV.agg [int xO, AV.isl 14 xA, int xT, int xV, int xS, int xN, int xCo, AV.isl 8 xCa, int xCv, int xCf, int xCk, int xXk, int xXn, str xXt], AV.isl 1 w2]) rfl rfl rfl q5 (by simp [AV.closedL, closed_v, closed_agg, closed_fn, closed_iptr, kc1, kc2, hpA, hpCa, hc1, hc2, hI1, hI2, hca, hcb, hIa, hIb]) ?_
        refine goB hX 0 (by conv => lhs; cbv; try simp only [k1, k9]; cbv; try simp only [k1, k9]; cbv; try simp only [k1, k9]; cbv; try simp only [k1, k9]; cbv) ?_
        refine on_guard rfl rfl (fun c1 => ?_) (fun c1 => ?_)
        ·
          simp [ee] at c1
        ·
          simp [ee] at c1
          refine goA 60 ?_
          refine on_gpcall (args := [AV.agg [int pO, AV.isl 14 pA, int pT, int pV, int pS, int pN, int pCo, AV.isl 8 pCa, int pCv, int pCf, int pCk, int pXk, int pXn, str pXt], AV.agg [int pO, AV.isl 14 pA, int pT, int pV, int pS, int pN, int pCo, AV.isl 8 pCa, int pCv, int pCf, int pCk, int pXk, int pXn, str pXt]]) rfl rfl rfl rfl q6 (by simp [AV.closedL, closed_v, closed_agg, closed_fn, closed_iptr, kc1, kc2, hpA, hpCa, hc1, hc2, hI1, hI2, hca, hcb, hIa, hIb]) ?_
          refine goB hX 0 (by conv => lhs; cbv; try simp only [k1, k9]; cbv; try simp only [k1, k9]; cbv; try simp only [k1, k9]; cbv; try simp only [k1, k9]; cbv) ?_
          refine on_cond rfl (fun c2 => ?_) (fun c2 => ?_)
          ·
            simp [ee] at c2
          ·
            simp [ee] at c2
            refine goA 60 ?_
            refine tr_drawB rfl (by conv => lhs; cbv) rfl ?_
            refine tgA ?_
            refine tr_pcall (args := [AV.agg [int pO, AV.isl 14 pA, int pT, int pV, int pS, int pN, int pCo, AV.isl 8 pCa, int pCv, int pCf, int pCk, int pXk, int pXn, str pXt]]) rfl rfl rfl q7 (by simp [AV.closedL, closed_v, closed_agg, closed_fn, closed_iptr, kc1, kc2, hpA, hpCa, hc1, hc2, hI1, hI2, hca, hcb, hIa, hIb]) ?_
            refine tgA ?_
            refine tr_pcall (args := [AV.agg [int xO, AV.isl 14 xA, int xT, int xV, int xS, int xN, int xCo, AV.isl 8 xCa, int xCv, int xCf, int xCk, int xXk, int xXn, str xXt]]) rfl rfl rfl q8 (by simp [AV.closedL, closed_v, closed_agg, closed_fn, closed_iptr, kc1, kc2, hpA, hpCa, hc1, hc2, hI1, hI2, hca, hcb, hIa, hIb]) ?_
            refine tgA ?_
            refine tr_nil ⟨rfl, ?_, ?_⟩
            · simp only [LooksL, lookAll, List.append, List.cons_append, List.nil_append, List.append_nil]; and_intros <;> first | trivial | (intro hp; first | rfl | exact absurd (show false = true from hp) Bool.false_ne_true)
            refine goB hX 0 (by conv => lhs; cbv; try simp only [k1, k9]; cbv; try simp only [k1, k9]; cbv; try simp only [k1, k9]; cbv; try simp only [k1, k9]; cbv) ?_
            refine goA 60 ?_
            refine on_loopP (ι := Int × List Int × List Int) (fun p => ([(15, int p.1), (14, .isl 1 wb), (13, .isl 1 wa), (7, int 16), (1, u8 b)], [])) (fun p => al = p.2.1 ++ p.2.2 ∧ p.1 = p.2.1.length) (fun p => p.2.2.length) (0, [], al) ⟨rfl, rfl⟩ ?_ ?_
            · exact (ent_sub [.gone, .gone, .gone] [] ⟨trivial, trivial, trivial, trivial⟩ trivial ⟨.refl _, .cl hIb, .cl hIa, .refl _, .refl _, trivial⟩)
            rintro ⟨i, d, r⟩ ⟨g0, g1⟩
            dsimp only at g0 g1 ⊢
            have hlw := congrArg List.length g0
            rw [List.length_append] at hlw
            cases r with
            | nil =>
              have kA : iLt i (lenA wa) = false := by simp only [ee]; simp at hlw ⊢; omega
              refine goB hX 0 (by conv => lhs; cbv; try simp only [kA]; cbv; try simp only [kA]; cbv; try simp only [kA]; cbv; try simp only [kA]; cbv) ?_
              refine goA 60 ?_
              refine loopP_exit ?_
              refine goA 60 ?_
              refine on_pcall (args := []) rfl rfl rfl q2 rfl ?_
              refine goA 60 ?_
              refine fn_ret rfl rfl (.val ?_)
              rfl
            | cons z r =>
            simp only [List.length_cons] at hlw
            have kA : iLt i (lenA wa) = true := by simp only [ee]; simp; omega
            have hat := el_at e_atA hwa g0 g1
            obtain ⟨z0, z1⟩ := d2 z (by rw [g0]; simp)
            rw [hrg z z0.1 z0.2] at z1
            have kz : iLe 0 z = true := by simp only [ee]; simp; omega
            have kr : iRem (iAdd .i64 z (iCvt .i64 b)) 16 = (z + b) % 16 := by
              simp only [ee]; rw [wrap64 (x := b) (by omega) (by omega), wrap64 (by omega) (by omega), Int.tmod_eq_emod_of_nonneg (by omega)]
            have hi2 : iAdd .i64 i 1 = ((d ++ [z]).length : Int) := by rw [List.length_append]; exact inc_w e_iAdd g1 (by omega)
            refine goB hX 0 (by conv => lhs; cbv; try simp only [kA]; cbv; try simp only [kA]; cbv; try simp only [kA]; cbv; try simp only [kA]; cbv) ?_
            refine goA 60 ?_
            refine on_loopP (ι := Int × Bool × List Int × List Int) (fun p => ([(17, int p.1), (16, bool p.2.1), (15, int i), (14, .isl 1 wb), (13, .isl 1 wa), (7, int 16), (1, u8 b)], [])) (fun p => bl = p.2.2.1 ++ p.2.2.2 ∧ p.1 = p.2.2.1.length ∧ p.2.1 = p.2.2.1.any (fun y9 => decide (y9 = (z + b) % 16))) (fun p => p.2.2.2.length) (0, false, [], bl) ⟨rfl, rfl, rfl⟩ ?_ ?_
            · exact (ent_sub [] [] trivial trivial ⟨.refl _, .refl _, .refl _, .cl hIb, .cl hIa, .refl _, .refl _, trivial⟩)
            rintro ⟨k, f, e9, r9⟩ ⟨g2, g3, g4⟩
            dsimp only at g2 g3 g4 ⊢
            have hlv := congrArg List.length g2
            rw [List.length_append] at hlv
            cases r9 with
            | nil =>
              have kB : iLt k (lenA wb) = false := by simp only [ee]; simp at hlv ⊢; omega
              have hf : f = true := by
                rw [g4]; rw [List.append_nil] at g2; rw [← g2]
                exact List.any_eq_true.2 ⟨_, z1, by simp⟩
              clear g4
              subst hf
              refine goB hX 0 (by conv => lhs; cbv; try simp only [kB]; cbv; try simp only [kB]; cbv; try simp only [kB]; cbv; try simp only [kB]; cbv) ?_
              refine goA 60 ?_
              refine loopP_exit ?_
              refine goB hX 0 (by conv => lhs; cbv; try simp only [kB]; cbv; try simp only [kB]; cbv; try simp only [kB]; cbv; try simp only [kB]; cbv) ?_
              refine on_cond rfl (fun c1 => ?_) (fun c1 => ?_)
              ·
                simp [ee] at c1
              ·
                simp [ee] at c1
                refine goA 60 ?_
                refine loopP_next (iAdd .i64 i 1, d ++ [z], r) ⟨by simp [g0], hi2⟩ (by simp) (ent_sub [] [] trivial trivial ⟨.refl _, .cl hIb, .cl hIa, .refl _, .refl _, trivial⟩)
            | cons y r9 =>
            simp only [List.length_cons] at hlv
            have kB : iLt k (lenA wb) = true := by simp only [ee]; simp; omega
            have hbt := el_at e_atA hwb g2 g3
            have hk2 : iAdd .i64 k 1 = ((e9 ++ [y]).length : Int) := by rw [List.length_append]; exact inc_w e_iAdd g3 (by omega)
            cases f with
            | true =>
              have hg : true = (e9 ++ [y]).any (fun y9 => decide (y9 = (z + b) % 16)) := by rw [List.any_append, ← g4]; rfl
              refine goB hX 0 (by conv => lhs; cbv; try simp only [kB, hat, hbt]; cbv; try simp only [kB, hat, hbt]; cbv; try simp only [kB, hat, hbt]; cbv; try simp only [kB, hat, hbt]; cbv) ?_
              refine goA 60 ?_
              refine tr_drawX rfl (by conv => lhs; cbv) (by conv => lhs; cbv) (by decide) (by decide) (by conv => lhs; cbv) rfl ?_
              refine tgA ?_
              refine tr_skipq (.inl rfl) ?_
              refine tr_skipq (.inl rfl) ?_
              refine tr_skipq (.inl rfl) ?_
              refine tr_skipq (.inl rfl) ?_
              refine tr_skipq (.inl rfl) ?_
              refine tr_skipq (.inl rfl) ?_
              refine tr_skipq (.inr ⟨_, _, rfl, rfl⟩) ?_
              refine tr_skipq (.inr ⟨_, _, rfl, rfl⟩) ?_
              refine tr_skipq (.inr ⟨_, _, rfl, rfl⟩) ?_
              refine tr_skipq (.inr ⟨_, _, rfl, rfl⟩) ?_
              refine tr_skipq (.inr ⟨_, _, rfl, rfl⟩) ?_
              refine tr_skipq (.inr ⟨_, _, rfl, rfl⟩) ?_
              refine tr_skipq (.inr ⟨_, _, rfl, rfl⟩) ?_
              refine tr_skipq (.inr ⟨_, _, rfl, rfl⟩) ?_
              refine tr_skipq (.inr ⟨_, _, rfl, rfl⟩) ?_
              refine tr_skipq (.inr ⟨_, _, rfl, rfl⟩) ?_
              refine tr_skipq (.inr ⟨_, _, rfl, rfl⟩) ?_
              refine tr_skipq (.inr ⟨_, _, rfl, rfl⟩) ?_
              refine tr_skipq (.inr ⟨_, _, rfl, rfl⟩) ?_
              refine tr_skipq (.inr ⟨_, _, rfl, rfl⟩) ?_
              refine tr_skipq (.inl rfl) ?_
              refine tgA ?_
              refine tr_nil ⟨rfl, by simp [LooksL, lookAll], ?_⟩
              refine goA 60 ?_
              refine loopP_next (iAdd .i64 k 1, true, e9 ++ [y], r9) ⟨by simp [g2], hk2, hg⟩ (by simp) (ent_sub [] [] trivial trivial ⟨.refl _, .refl _, .refl _, .cl hIb, .cl hIa, .refl _, .refl _, trivial⟩)
            | false =>
              have hg : iEq y (iRem (iAdd .i64 z (iCvt .i64 b)) 16) = (e9 ++ [y]).any (fun y9 => decide (y9 = (z + b) % 16)) := by rw [List.any_append, ← g4, kr]; simp only [ee]; simp; rfl
              refine goB hX 0 (by conv => lhs; cbv; try simp only [kB, hat, hbt, kz]; cbv; try simp only [kB, hat, hbt, kz]; cbv; try simp only [kB, hat, hbt, kz]; cbv; try simp only [kB, hat, hbt, kz]; cbv) ?_
              refine goA 60 ?_
              refine tr_drawX rfl (by conv => lhs; cbv) (by conv => lhs; cbv) (by decide) (by decide) (by conv => lhs; cbv) rfl ?_
              refine tgA ?_
              refine tr_ung rfl ?_
              refine tgA ?_
              refine tr_ung rfl ?_
              refine tgA ?_
              refine tr_ung rfl ?_
              refine tgA ?_
              refine tr_ung rfl ?_
              refine tgB hX (by conv => lhs; cbv; try simp only [kB, hat, hbt, kz]; cbv; try simp only [kB, hat, hbt, kz]; cbv; try simp only [kB, hat, hbt, kz]; cbv; try simp only [kB, hat, hbt, kz]; cbv) ?_
              refine tr_ung rfl ?_
              refine tgA ?_
              refine tr_ung rfl ?_
              refine tgA ?_
              refine tgB hX (by conv => lhs; cbv; try simp only [kB, hat, hbt, kz]; cbv; try simp only [kB, hat, hbt, kz]; cbv; try simp only [kB, hat, hbt, kz]; cbv; try simp only [kB, hat, hbt, kz]; cbv) ?_
              refine tr_ung rfl ?_
              refine tgA ?_
              refine tr_ung rfl ?_
              refine tgA ?_
              refine tr_ung rfl ?_
              refine tgA ?_
              refine tr_ung rfl ?_
              refine tgB hX (by conv => lhs; cbv; try simp only [kB, hat, hbt, kz]; cbv; try simp only [kB, hat, hbt, kz]; cbv; try simp only [kB, hat, hbt, kz]; cbv; try simp only [kB, hat, hbt, kz]; cbv) ?_
              refine tr_ung rfl ?_
              refine tgA ?_
              refine tr_ung rfl ?_
              refine tgA ?_
              refine tr_ung rfl ?_
              refine tgA ?_
              refine tr_ung rfl ?_
              refine tgB hX (by conv => lhs; cbv; try simp only [kB, hat, hbt, kz]; cbv; try simp only [kB, hat, hbt, kz]; cbv; try simp only [kB, hat, hbt, kz]; cbv; try simp only [kB, hat, hbt, kz]; cbv) ?_
              refine tr_ung rfl ?_
              refine tgA ?_
              refine tr_ung rfl ?_
              refine tgA ?_
              refine tr_ung rfl ?_
              refine tgA ?_
              refine tr_ung rfl ?_
              refine tgA ?_
              refine tr_ung rfl ?_
              refine tgA ?_
              refine tr_ung rfl ?_
              refine tgA ?_
              refine tr_ung rfl ?_
              refine tgA ?_
              refine tr_nil ⟨rfl, by simp [LooksL, lookAll], ?_⟩
              refine goA 60 ?_
              refine loopP_next (iAdd .i64 k 1, iEq y (iRem (iAdd .i64 z (iCvt .i64 b)) 16), e9 ++ [y], r9) ⟨by simp [g2], hk2, hg⟩ (by simp) (ent_sub [] [] trivial trivial ⟨.refl _, .refl _, .refl _, .cl hIb, .cl hIa, .refl _, .refl _, trivial⟩)
end Go.Am
end
