/- Contracts of the program's functions, for every argument that meets the conditions that each theorem names. -/
import Derived.Test.YthhgndcnfdaekaaCt1
import Derived.Test.YthhgndcnfdaekaaAm5
section
set_option linter.unusedVariables false
set_option linter.unusedSimpArgs false
namespace Go.Am
open Go.Proofs

abbrev int (n : Int) : AV := .val (.int .i64 n)

structure Bnd where
  var : Int
  time : Int
  src : Int
  seq : Int
  deriving DecidableEq
structure Chg where
  sign : Int
  query : Int
  bs : List Bnd
  deriving DecidableEq

def Bnd.enc (b : Bnd) : AV := .agg [int b.var, int b.time, int b.src, int b.seq]
noncomputable def Chg.enc (c : Chg) : AV := .agg [int c.sign, int c.query, .isl 4 (mapE Bnd.enc c.bs)]
theorem Bnd.closed (b : Bnd) : b.enc.closed = true := rfl
theorem Chg.closed (c : Chg) : c.enc.closed = true := by simp [Chg.enc, AV.closed, AV.closedL, closed_mapE Bnd.closed]
theorem closedCs (l : List Chg) : AV.closedL [.isl 3 (mapE Chg.enc l)] = true := by simp [AV.closed, AV.closedL, closed_mapE Chg.closed]

noncomputable def EE : Env := ⟨Try.prog, fun _ => .undef⟩

def changeF (c : Chg) : Int := if c.sign ≠ 1 ∧ c.sign ≠ -1 then 1 else if c.query < 0 ∨ c.query ≥ 16 then 2 else 0

theorem P48 (c : Chg) : PCall EE 48 [c.enc] (int (changeF c)) := by
  obtain ⟨s, q, bs⟩ := c
  refine words fun iLt iLe iEq iNe iAdd iSub iMul iQuo iRem iShr iNeg iCvt iMax iMin bNot bEq bNe bAnd bOr sEq sNe sLen sCat sCut sAt lenA lenN iOf natOf atA atN cutA partA dropA catA setA repA putA idxN addN subN minN lenCut hX e_iLt e_iLe e_iEq e_iNe e_iAdd e_iSub e_iMul e_iQuo e_iRem e_iShr e_iNeg e_iCvt e_iMax e_iMin e_bNot e_bEq e_bNe e_bAnd e_bOr e_sEq e_sNe e_sLen e_sCat e_sCut e_sAt e_lenA e_lenN e_iOf e_natOf e_atA e_atN e_cutA e_partA e_dropA e_catA e_setA e_repA e_putA e_idxN e_addN e_subN e_minN e_lenCut ee => ?_
  refine fn_body (fn := Try.f48) (n := 19) (ac := Tryc48) (rvs := [.t 2]) rfl (by decide) Tryp48 rfl rfl rfl ?_
  refine go rfl hX 0 (by conv => lhs; cbv) ?_ ?_
  · first | exact trivial | (simp only [Cd.ok, ee]; and_intros <;> first | omega | rfl | (simp <;> omega))
  refine on_cond rfl (fun h1 => ?_) (fun h1 => ?_)
  · simp [ee, decide_eq_true_eq, decide_eq_false_iff_not, Bool.and_eq_true, Bool.or_eq_true, Bool.not_eq_true', Bool.not_eq_false', Bool.and_eq_false_iff, Bool.or_eq_false_iff, bne_iff_ne, beq_iff_eq, beq_eq_false_iff_ne, bne_eq_false_iff_eq, ne_eq, Int.not_lt, Int.not_le, Decidable.not_not] at h1
    refine go rfl hX 0 (by conv => lhs; cbv) ?_ ?_
    · first | exact trivial | (simp only [Cd.ok, ee]; and_intros <;> first | omega | rfl | (simp <;> omega))
    refine fn_ret rfl rfl (.val ?_)
    simp [changeF, h1]
  · simp [ee, decide_eq_true_eq, decide_eq_false_iff_not, Bool.and_eq_true, Bool.or_eq_true, Bool.not_eq_true', Bool.not_eq_false', Bool.and_eq_false_iff, Bool.or_eq_false_iff, bne_iff_ne, beq_iff_eq, beq_eq_false_iff_ne, bne_eq_false_iff_eq, ne_eq, Int.not_lt, Int.not_le, Decidable.not_not] at h1
    refine go rfl hX 0 (by conv => lhs; cbv) ?_ ?_
    · first | exact trivial | (simp only [Cd.ok, ee]; and_intros <;> first | omega | rfl | (simp <;> omega))
    refine on_cond rfl (fun h2 => ?_) (fun h2 => ?_)
    · simp [ee, decide_eq_true_eq, decide_eq_false_iff_not, Bool.and_eq_true, Bool.or_eq_true, Bool.not_eq_true', Bool.not_eq_false', Bool.and_eq_false_iff, Bool.or_eq_false_iff, bne_iff_ne, beq_iff_eq, beq_eq_false_iff_ne, bne_eq_false_iff_eq, ne_eq, Int.not_lt, Int.not_le, Decidable.not_not] at h2
      refine go rfl hX 0 (by conv => lhs; cbv) ?_ ?_
      · first | exact trivial | (simp only [Cd.ok, ee]; and_intros <;> first | omega | rfl | (simp <;> omega))
      refine fn_ret rfl rfl (.val ?_)
      unfold changeF; rw [if_neg (by simp; omega), if_pos (by simp; omega)]
    · simp [ee, decide_eq_true_eq, decide_eq_false_iff_not, Bool.and_eq_true, Bool.or_eq_true, Bool.not_eq_true', Bool.not_eq_false', Bool.and_eq_false_iff, Bool.or_eq_false_iff, bne_iff_ne, beq_iff_eq, beq_eq_false_iff_ne, bne_eq_false_iff_eq, ne_eq, Int.not_lt, Int.not_le, Decidable.not_not] at h2
      refine go rfl hX 0 (by conv => lhs; cbv) ?_ ?_
      · first | exact trivial | (simp only [Cd.ok, ee]; and_intros <;> first | omega | rfl | (simp <;> omega))
      refine fn_ret rfl rfl (.val ?_)
      unfold changeF; rw [if_neg (by simp; omega), if_neg (by simp; omega)]

def changesF : List Chg → Int
  | [] => 0
  | c :: r => if changeF c ≠ 0 then changeF c else changesF r

theorem P34 (l : List Chg) (hl : l.length < 1152921504606846976) : PCall EE 34 [.isl 3 (mapE Chg.enc l)] (int (changesF l)) := by
  refine words fun iLt iLe iEq iNe iAdd iSub iMul iQuo iRem iShr iNeg iCvt iMax iMin bNot bEq bNe bAnd bOr sEq sNe sLen sCat sCut sAt lenA lenN iOf natOf atA atN cutA partA dropA catA setA repA putA idxN addN subN minN lenCut hX e_iLt e_iLe e_iEq e_iNe e_iAdd e_iSub e_iMul e_iQuo e_iRem e_iShr e_iNeg e_iCvt e_iMax e_iMin e_bNot e_bEq e_bNe e_bAnd e_bOr e_sEq e_sNe e_sLen e_sCat e_sCut e_sAt e_lenA e_lenN e_iOf e_natOf e_atA e_atN e_cutA e_partA e_dropA e_catA e_setA e_repA e_putA e_idxN e_addN e_subN e_minN e_lenCut ee => ?_
  generalize hes : mapE Chg.enc l = es
  refine fn_body (fn := Try.f34) (n := 19) (ac := Tryc34) (rvs := [.t 2]) rfl (by decide) Tryp34 rfl rfl rfl ?_
  refine go rfl hX 0 (by conv => lhs; cbv) ?_ ?_
  · first | exact trivial | (simp only [Cd.ok, ee]; and_intros <;> first | omega | rfl | (simp <;> omega))
  refine on_loopP (ι := List Chg × List Chg × Int) (fun p => ([(3, int p.2.2), (0, .isl 3 es)], [])) (fun p => l = p.1 ++ p.2.1 ∧ p.2.2 = p.1.length ∧ changesF l = changesF p.2.1) (fun p => p.2.1.length) ([], l, 0) ⟨rfl, rfl, rfl⟩ (ent_fw ⟨.refl _, .refl _, trivial⟩) ?_
  rintro ⟨d, r, i⟩ ⟨h1, hi, h2⟩
  dsimp only at h1 hi h2 ⊢
  cases r with
  | nil =>
    have hc : iLt i (lenA es) = false := by simp [ee, decide_eq_true_eq, decide_eq_false_iff_not, Bool.and_eq_true, Bool.or_eq_true, Bool.not_eq_true', Bool.not_eq_false', Bool.and_eq_false_iff, Bool.or_eq_false_iff, bne_iff_ne, beq_iff_eq, beq_eq_false_iff_ne, bne_eq_false_iff_eq, ne_eq, Int.not_lt, Int.not_le, Decidable.not_not, ← hes, mapE_eq, h1, hi]; try omega
    refine go rfl hX 1 (by conv => lhs; cbv; simp only [hc]; cbv) ?_ ?_
    · first | exact trivial | (simp only [Cd.ok, ee]; and_intros <;> first | omega | rfl | (simp <;> omega))
    refine loopP_exit ?_
    refine go rfl hX 0 (by conv => lhs; cbv) ?_ ?_
    · first | exact trivial | (simp only [Cd.ok, ee]; and_intros <;> first | omega | rfl | (simp <;> omega))
    refine fn_ret rfl rfl (.val ?_)
    rw [h2]; rfl
  | cons c r =>
    have hc : iLt i (lenA es) = true := by simp [ee, decide_eq_true_eq, decide_eq_false_iff_not, Bool.and_eq_true, Bool.or_eq_true, Bool.not_eq_true', Bool.not_eq_false', Bool.and_eq_false_iff, Bool.or_eq_false_iff, bne_iff_ne, beq_iff_eq, beq_eq_false_iff_ne, bne_eq_false_iff_eq, ne_eq, Int.not_lt, Int.not_le, Decidable.not_not, ← hes, mapE_eq, h1, hi]; try omega
    have hat : atA es i = c.enc := by simp [ee, decide_eq_true_eq, decide_eq_false_iff_not, Bool.and_eq_true, Bool.or_eq_true, Bool.not_eq_true', Bool.not_eq_false', Bool.and_eq_false_iff, Bool.or_eq_false_iff, bne_iff_ne, beq_iff_eq, beq_eq_false_iff_ne, bne_eq_false_iff_eq, ne_eq, Int.not_lt, Int.not_le, Decidable.not_not, ← hes, mapE_eq, h1, hi]; try omega
    refine go rfl hX 1 (by conv => lhs; cbv; simp only [hc,hat]; cbv; simp only [hc,hat]; cbv) ?_ ?_
    · simp only [Cd.ok, ee]; simp [← hes, mapE_eq, h1, hi]; omega
    refine on_pcall (args := [c.enc]) rfl rfl rfl (P48 c) (by simp [AV.closedL, Chg.closed]) ?_
    generalize he : changeF c = e
    refine go rfl hX 0 (by conv => lhs; cbv) ?_ ?_
    · first | exact trivial | (simp only [Cd.ok, ee]; and_intros <;> first | omega | rfl | (simp <;> omega))
    refine on_cond rfl (fun h3 => ?_) (fun h3 => ?_)
    · simp [ee, decide_eq_true_eq, decide_eq_false_iff_not, Bool.and_eq_true, Bool.or_eq_true, Bool.not_eq_true', Bool.not_eq_false', Bool.and_eq_false_iff, Bool.or_eq_false_iff, bne_iff_ne, beq_iff_eq, beq_eq_false_iff_ne, bne_eq_false_iff_eq, ne_eq, Int.not_lt, Int.not_le, Decidable.not_not] at h3
      refine go rfl hX 0 (by conv => lhs; cbv) ?_ ?_
      · first | exact trivial | (simp only [Cd.ok, ee]; and_intros <;> first | omega | rfl | (simp <;> omega))
      refine loopP_ret ?_
      refine go rfl hX 0 (by conv => lhs; cbv) ?_ ?_
      · first | exact trivial | (simp only [Cd.ok, ee]; and_intros <;> first | omega | rfl | (simp <;> omega))
      refine fn_ret rfl rfl (.val ?_)
      rw [h2]; simp [changesF, he, h3]
    · simp [ee, decide_eq_true_eq, decide_eq_false_iff_not, Bool.and_eq_true, Bool.or_eq_true, Bool.not_eq_true', Bool.not_eq_false', Bool.and_eq_false_iff, Bool.or_eq_false_iff, bne_iff_ne, beq_iff_eq, beq_eq_false_iff_ne, bne_eq_false_iff_eq, ne_eq, Int.not_lt, Int.not_le, Decidable.not_not] at h3
      refine go rfl hX 0 (by conv => lhs; cbv) ?_ ?_
      · first | exact trivial | (simp only [Cd.ok, ee]; and_intros <;> first | omega | rfl | (simp <;> omega))
      refine loopP_next (d ++ [c], r, iAdd .i64 i 1) ⟨by simp [h1], ?_, ?_⟩ (by simp) (ent_fw ⟨.refl _, .refl _, trivial⟩)
      · simp only [ee]; rw [wrap64 (by omega) (by simp [h1] at hl; omega)]; simp [hi]
      · rw [h2]; simp [changesF, he, h3]
end Go.Am
end
section
set_option linter.unusedVariables false
set_option maxRecDepth 20000
set_option linter.unusedSimpArgs false
namespace Go.Am
open Go.Proofs

theorem follows : EE.P.follows .mixedOrders = true := rfl

theorem P49 (xs ys : List Bnd) (hx : xs.length < 1152921504606846976) : PCall EE 49 [.agg [.isl 4 (mapE Bnd.enc xs)], .agg [.isl 4 (mapE Bnd.enc ys)]] (.val (.bool (decide (xs = ys)))) := by
  refine words fun iLt iLe iEq iNe iAdd iSub iMul iQuo iRem iShr iNeg iCvt iMax iMin bNot bEq bNe bAnd bOr sEq sNe sLen sCat sCut sAt lenA lenN iOf natOf atA atN cutA partA dropA catA setA repA putA idxN addN subN minN lenCut hX e_iLt e_iLe e_iEq e_iNe e_iAdd e_iSub e_iMul e_iQuo e_iRem e_iShr e_iNeg e_iCvt e_iMax e_iMin e_bNot e_bEq e_bNe e_bAnd e_bOr e_sEq e_sNe e_sLen e_sCat e_sCut e_sAt e_lenA e_lenN e_iOf e_natOf e_atA e_atN e_cutA e_partA e_dropA e_catA e_setA e_repA e_putA e_idxN e_addN e_subN e_minN e_lenCut ee => ?_
  generalize hex : mapE Bnd.enc xs = ex
  generalize hey : mapE Bnd.enc ys = ey
  have hxl : ex.length = xs.length := by rw [← hex, mapE_len]
  have hyl : ey.length = ys.length := by rw [← hey, mapE_len]
  refine fn_body (fn := Try.f49) (n := 31) (ac := Tryc49) (rvs := [.t 4]) rfl (by decide) Tryp49 rfl rfl rfl ?_
  refine go rfl hX 0 (by conv => lhs; cbv) ?_ ?_
  · first | exact trivial | (simp only [Cd.ok, ee]; and_intros <;> first | omega | rfl | (simp <;> omega))
  refine on_cond rfl (fun h1 => ?_) (fun h1 => ?_)
  · simp [ee, decide_eq_true_eq, decide_eq_false_iff_not, Bool.and_eq_true, Bool.or_eq_true, Bool.not_eq_true', Bool.not_eq_false', Bool.and_eq_false_iff, Bool.or_eq_false_iff, bne_iff_ne, beq_iff_eq, beq_eq_false_iff_ne, bne_eq_false_iff_eq, ne_eq, Int.not_lt, Int.not_le, Decidable.not_not, hxl, hyl] at h1
    refine go rfl hX 0 (by conv => lhs; cbv) ?_ ?_
    · first | exact trivial | (simp only [Cd.ok, ee]; and_intros <;> first | omega | rfl | (simp <;> omega))
    refine fn_ret rfl rfl (.val ?_)
    have : xs ≠ ys := fun h => by rw [h] at h1; exact h1 rfl
    simp [this]
  · simp [ee, decide_eq_true_eq, decide_eq_false_iff_not, Bool.and_eq_true, Bool.or_eq_true, Bool.not_eq_true', Bool.not_eq_false', Bool.and_eq_false_iff, Bool.or_eq_false_iff, bne_iff_ne, beq_iff_eq, beq_eq_false_iff_ne, bne_eq_false_iff_eq, ne_eq, Int.not_lt, Int.not_le, Decidable.not_not, hxl, hyl] at h1
    refine go rfl hX 0 (by conv => lhs; cbv) ?_ ?_
    · first | exact trivial | (simp only [Cd.ok, ee]; and_intros <;> first | omega | rfl | (simp <;> omega))
    refine on_loopP (ι := List Bnd × List Bnd × List Bnd × List Bnd × Int) (fun p => ([(5, int p.2.2.2.2), (2, .ptr 0 0), (3, .ptr 1 0)], [.cells [.isl 4 ex], .cells [.isl 4 ey]])) (fun p => xs = p.1 ++ p.2.1 ∧ ys = p.2.2.1 ++ p.2.2.2.1 ∧ p.2.2.2.2 = p.1.length ∧ p.1 = p.2.2.1) (fun p => p.2.1.length) ([], xs, [], ys, 0) ⟨rfl, rfl, rfl, rfl⟩ (ent_fw ⟨.refl _, .refl _, .refl _, trivial⟩) ?_
    rintro ⟨dx, rx, dy, ry, i⟩ ⟨g1, g2, gi, g3⟩
    dsimp only at g1 g2 gi g3 ⊢
    subst g3
    cases rx with
    | nil =>
      have hry : ry = [] := by
        have := congrArg List.length g1; have h2 := congrArg List.length g2; simp at this h2; exact List.length_eq_zero_iff.1 (by omega)
      subst hry
      have L1 := len_split g1
      try simp only [List.length_cons, List.length_nil] at L1
      have hc : iLt i (lenA ex) = false := lt_f e_iLt e_lenA (by omega)
      refine go rfl hX 1 (by conv => lhs; cbv; simp only [hc]; cbv) ?_ ?_
      · first | exact trivial | (simp only [Cd.ok, ee]; and_intros <;> first | omega | rfl | (simp <;> omega))
      refine loopP_exit ?_
      refine go rfl hX 0 (by conv => lhs; cbv) ?_ ?_
      · first | exact trivial | (simp only [Cd.ok, ee]; and_intros <;> first | omega | rfl | (simp <;> omega))
      refine fn_ret rfl rfl (.val ?_)
      have : xs = ys := by rw [g1, g2]
      simp [this]
    | cons x rx =>
      cases ry with
      | nil => exfalso; have := congrArg List.length g1; have h2 := congrArg List.length g2; simp at this h2; omega
      | cons y ry =>
        have L1 := len_split g1
        try simp only [List.length_cons, List.length_nil] at L1
        have L2 := len_split g2
        try simp only [List.length_cons, List.length_nil] at L2
        have hc : iLt i (lenA ex) = true := lt_t e_iLt e_lenA (by omega)
        have ha := el_at e_atA hex g1 gi
        have hb := el_at e_atA hey g2 gi
        refine go rfl hX 1 (by conv => lhs; cbv; simp only [hc,ha,hb]; cbv; simp only [hc,ha,hb]; cbv; simp only [hc,ha,hb]; cbv) ?_ ?_
        · simp only [Cd.ok, ee]; omega
        refine on_cond rfl (fun h2 => ?_) (fun h2 => ?_)
        · simp [ee, decide_eq_true_eq, decide_eq_false_iff_not, Bool.and_eq_true, Bool.or_eq_true, Bool.not_eq_true', Bool.not_eq_false', Bool.and_eq_false_iff, Bool.or_eq_false_iff, bne_iff_ne, beq_iff_eq, beq_eq_false_iff_ne, bne_eq_false_iff_eq, ne_eq, Int.not_lt, Int.not_le, Decidable.not_not] at h2
          refine go rfl hX 0 (by conv => lhs; cbv) ?_ ?_
          · first | exact trivial | (simp only [Cd.ok, ee]; and_intros <;> first | omega | rfl | (simp <;> omega))
          refine loopP_ret ?_
          refine go rfl hX 0 (by conv => lhs; cbv) ?_ ?_
          · first | exact trivial | (simp only [Cd.ok, ee]; and_intros <;> first | omega | rfl | (simp <;> omega))
          refine fn_ret rfl rfl (.val ?_)
          have : xs ≠ ys := fun h => by
            rw [g1, g2] at h
            have := List.append_cancel_left h
            simp only [List.cons.injEq] at this
            obtain ⟨rfl, _⟩ := this
            simp at h2
          simp [this]
        · simp [ee, decide_eq_true_eq, decide_eq_false_iff_not, Bool.and_eq_true, Bool.or_eq_true, Bool.not_eq_true', Bool.not_eq_false', Bool.and_eq_false_iff, Bool.or_eq_false_iff, bne_iff_ne, beq_iff_eq, beq_eq_false_iff_ne, bne_eq_false_iff_eq, ne_eq, Int.not_lt, Int.not_le, Decidable.not_not] at h2
          refine go rfl hX 0 (by conv => lhs; cbv) ?_ ?_
          · first | exact trivial | (simp only [Cd.ok, ee]; and_intros <;> first | omega | rfl | (simp <;> omega))
          refine loopP_next (dx ++ [x], rx, dx ++ [x], ry, iAdd .i64 i 1) ⟨by simp [g1], ?_, ?_, rfl⟩ (by simp) (ent_fw ⟨.refl _, .refl _, .refl _, trivial⟩)
          · obtain ⟨a, b, c, d⟩ := x
            obtain ⟨a', b', c', d'⟩ := y
            simp at h2
            obtain ⟨rfl, rfl, rfl, rfl⟩ := h2
            simp [g2]
          · simp only [List.length_append, List.length_cons, List.length_nil]; exact inc_w e_iAdd gi (by omega)

theorem P37 (a b : Chg) (ha : a.bs.length < 1152921504606846976) : PCall EE 37 [a.enc, b.enc] (.val (.bool (decide (a = b)))) := by
  refine words fun iLt iLe iEq iNe iAdd iSub iMul iQuo iRem iShr iNeg iCvt iMax iMin bNot bEq bNe bAnd bOr sEq sNe sLen sCat sCut sAt lenA lenN iOf natOf atA atN cutA partA dropA catA setA repA putA idxN addN subN minN lenCut hX e_iLt e_iLe e_iEq e_iNe e_iAdd e_iSub e_iMul e_iQuo e_iRem e_iShr e_iNeg e_iCvt e_iMax e_iMin e_bNot e_bEq e_bNe e_bAnd e_bOr e_sEq e_sNe e_sLen e_sCat e_sCut e_sAt e_lenA e_lenN e_iOf e_natOf e_atA e_atN e_cutA e_partA e_dropA e_catA e_setA e_repA e_putA e_idxN e_addN e_subN e_minN e_lenCut ee => ?_
  refine fn_body (fn := Try.f37) (n := 24) (ac := Tryc37) (rvs := [.t 4]) rfl (by decide) Tryp37 rfl rfl rfl ?_
  refine go rfl hX 0 (by conv => lhs; cbv) ?_ ?_
  · first | exact trivial | (simp only [Cd.ok, ee]; and_intros <;> first | omega | rfl | (simp <;> omega))
  refine on_guard rfl rfl (fun h1 => ?_) (fun h1 => ?_)
  · simp [ee, decide_eq_true_eq, decide_eq_false_iff_not, Bool.and_eq_true, Bool.or_eq_true, Bool.not_eq_true', Bool.not_eq_false', Bool.and_eq_false_iff, Bool.or_eq_false_iff, bne_iff_ne, beq_iff_eq, beq_eq_false_iff_ne, bne_eq_false_iff_eq, ne_eq, Int.not_lt, Int.not_le, Decidable.not_not] at h1
    refine go rfl hX 4 (by conv => lhs; cbv) ?_ ?_
    · first | exact trivial | (simp only [Cd.ok, ee]; and_intros <;> first | omega | rfl | (simp <;> omega))
    refine on_gpcall rfl rfl rfl rfl (P49 a.bs b.bs ha) (by show AV.closedL [.agg [.isl 4 (mapE Bnd.enc a.bs)], .agg [.isl 4 (mapE Bnd.enc b.bs)]] = true; simp [AV.closed, AV.closedL, closed_mapE Bnd.closed]) ?_
    generalize hd : decide (a.bs = b.bs) = dd
    refine go rfl hX 0 (by conv => lhs; cbv) ?_ ?_
    · first | exact trivial | (simp only [Cd.ok, ee]; and_intros <;> first | omega | rfl | (simp <;> omega))
    refine fn_ret rfl rfl (.val ?_)
    obtain ⟨s, q, bs⟩ := a
    obtain ⟨s', q', bs'⟩ := b
    dsimp only at h1 hd ⊢
    subst hd
    simp [h1]
  · simp [ee, decide_eq_true_eq, decide_eq_false_iff_not, Bool.and_eq_true, Bool.or_eq_true, Bool.not_eq_true', Bool.not_eq_false', Bool.and_eq_false_iff, Bool.or_eq_false_iff, bne_iff_ne, beq_iff_eq, beq_eq_false_iff_ne, bne_eq_false_iff_eq, ne_eq, Int.not_lt, Int.not_le, Decidable.not_not] at h1
    refine go rfl hX 5 (by conv => lhs; cbv) ?_ ?_
    · first | exact trivial | (simp only [Cd.ok, ee]; and_intros <;> first | omega | rfl | (simp <;> omega))
    refine fn_ret rfl rfl (.val ?_)
    obtain ⟨s, q, bs⟩ := a
    obtain ⟨s', q', bs'⟩ := b
    simp at h1
    simp
    intro h2 h3
    exact absurd h3 (h1 h2)
end Go.Am
end
section
set_option linter.unusedVariables false
set_option linter.unusedSimpArgs false
set_option maxRecDepth 20000
namespace Go.Am
open Go.Proofs

structure Bat where
  epoch : Int
  cs : List Chg
  deriving DecidableEq
structure Snk where
  epoch : Int
  com : List Chg
  pend : List Bat
  deriving DecidableEq
noncomputable def Bat.enc (b : Bat) : AV := .agg [int b.epoch, .isl 3 (mapE Chg.enc b.cs)]
noncomputable def Snk.enc (s : Snk) : AV := .agg [int s.epoch, .isl 3 (mapE Chg.enc s.com), .isl 2 (mapE Bat.enc s.pend)]
theorem Bat.closed (b : Bat) : b.enc.closed = true := by simp [Bat.enc, AV.closed, AV.closedL, closed_mapE Chg.closed]
theorem Snk.closed (s : Snk) : s.enc.closed = true := by simp [Snk.enc, AV.closed, AV.closedL, closed_mapE Chg.closed, closed_mapE Bat.closed]
theorem closed1 {v : AV} (h : v.closed = true) : AV.closedL [v] = true := by simp [AV.closedL, h]
theorem closed2 {v u : AV} (h : v.closed = true) (h2 : u.closed = true) : AV.closedL [v, u] = true := by simp [AV.closedL, h, h2]
theorem closedC (l : List Chg) : (AV.isl 3 (mapE Chg.enc l)).closed = true := by simp [AV.closed, closed_mapE Chg.closed]
theorem closedB (l : List Bat) : (AV.isl 2 (mapE Bat.enc l)).closed = true := by simp [AV.closed, closed_mapE Bat.closed]

/-- lengths that no machine reaches -/
def Short {α : Type} (l : List α) : Prop := l.length < 1152921504606846976
def Fine (l : List Chg) : Prop := Short l ∧ ∀ c ∈ l, Short c.bs
structure Snk.Fine (s : Snk) : Prop where
  com : Go.Am.Fine s.com
  pend : Short s.pend
  bats : ∀ b ∈ s.pend, Go.Am.Fine b.cs

theorem P14 (xs ys : List Chg) (hx : Fine xs) : PCall EE 14 [.isl 3 (mapE Chg.enc xs), .isl 3 (mapE Chg.enc ys)] (.val (.bool (decide (xs = ys)))) := by
  obtain ⟨hs, hx⟩ := hx
  unfold Short at hs
  refine words fun iLt iLe iEq iNe iAdd iSub iMul iQuo iRem iShr iNeg iCvt iMax iMin bNot bEq bNe bAnd bOr sEq sNe sLen sCat sCut sAt lenA lenN iOf natOf atA atN cutA partA dropA catA setA repA putA idxN addN subN minN lenCut hX e_iLt e_iLe e_iEq e_iNe e_iAdd e_iSub e_iMul e_iQuo e_iRem e_iShr e_iNeg e_iCvt e_iMax e_iMin e_bNot e_bEq e_bNe e_bAnd e_bOr e_sEq e_sNe e_sLen e_sCat e_sCut e_sAt e_lenA e_lenN e_iOf e_natOf e_atA e_atN e_cutA e_partA e_dropA e_catA e_setA e_repA e_putA e_idxN e_addN e_subN e_minN e_lenCut ee => ?_
  generalize hex : mapE Chg.enc xs = ex
  generalize hey : mapE Chg.enc ys = ey
  have hxl : ex.length = xs.length := by rw [← hex, mapE_len]
  have hyl : ey.length = ys.length := by rw [← hey, mapE_len]
  refine fn_body (fn := Try.f14) (n := 27) (ac := Tryc14) (rvs := [.t 4]) rfl (by decide) Tryp14 rfl rfl rfl ?_
  refine go rfl hX 0 (by conv => lhs; cbv) ?_ ?_
  · first | exact trivial | (simp only [Cd.ok, ee]; and_intros <;> first | omega | rfl | (simp <;> omega))
  refine on_cond rfl (fun h1 => ?_) (fun h1 => ?_)
  · simp [ee, decide_eq_true_eq, decide_eq_false_iff_not, Bool.and_eq_true, Bool.or_eq_true, Bool.not_eq_true', Bool.not_eq_false', Bool.and_eq_false_iff, Bool.or_eq_false_iff, bne_iff_ne, beq_iff_eq, beq_eq_false_iff_ne, bne_eq_false_iff_eq, ne_eq, Int.not_lt, Int.not_le, Decidable.not_not, hxl, hyl] at h1
    refine go rfl hX 0 (by conv => lhs; cbv) ?_ ?_
    · first | exact trivial | (simp only [Cd.ok, ee]; and_intros <;> first | omega | rfl | (simp <;> omega))
    refine fn_ret rfl rfl (.val ?_)
    have : xs ≠ ys := fun h => by rw [h] at h1; exact h1 rfl
    simp [this]
  · simp [ee, decide_eq_true_eq, decide_eq_false_iff_not, Bool.and_eq_true, Bool.or_eq_true, Bool.not_eq_true', Bool.not_eq_false', Bool.and_eq_false_iff, Bool.or_eq_false_iff, bne_iff_ne, beq_iff_eq, beq_eq_false_iff_ne, bne_eq_false_iff_eq, ne_eq, Int.not_lt, Int.not_le, Decidable.not_not, hxl, hyl] at h1
    refine go rfl hX 0 (by conv => lhs; cbv) ?_ ?_
    · first | exact trivial | (simp only [Cd.ok, ee]; and_intros <;> first | omega | rfl | (simp <;> omega))
    refine on_loopP (ι := List Chg × List Chg × List Chg × List Chg × Int) (fun p => ([(5, int p.2.2.2.2), (0, .isl 3 ex), (1, .isl 3 ey)], [])) (fun p => xs = p.1 ++ p.2.1 ∧ ys = p.2.2.1 ++ p.2.2.2.1 ∧ p.2.2.2.2 = p.1.length ∧ p.1 = p.2.2.1) (fun p => p.2.1.length) ([], xs, [], ys, 0) ⟨rfl, rfl, rfl, rfl⟩ (ent_fw ⟨.refl _, .refl _, .refl _, trivial⟩) ?_
    rintro ⟨dx, rx, dy, ry, i⟩ ⟨g1, g2, gi, g3⟩
    dsimp only at g1 g2 gi g3 ⊢
    subst g3
    cases rx with
    | nil =>
      have hry : ry = [] := by
        have := congrArg List.length g1; have h2 := congrArg List.length g2; simp at this h2; exact List.length_eq_zero_iff.1 (by omega)
      subst hry
      have L1 := len_split g1
      try simp only [List.length_cons, List.length_nil] at L1
      have hc : iLt i (lenA ex) = false := lt_f e_iLt e_lenA (by omega)
      refine go rfl hX 1 (by conv => lhs; cbv; simp only [hc]; cbv) ?_ ?_
      · first | exact trivial | (simp only [Cd.ok, ee]; and_intros <;> first | omega | rfl | (simp <;> omega))
      refine loopP_exit ?_
      refine go rfl hX 0 (by conv => lhs; cbv) ?_ ?_
      · first | exact trivial | (simp only [Cd.ok, ee]; and_intros <;> first | omega | rfl | (simp <;> omega))
      refine fn_ret rfl rfl (.val ?_)
      have : xs = ys := by rw [g1, g2]
      simp [this]
    | cons x rx =>
      cases ry with
      | nil => exfalso; have := congrArg List.length g1; have h2 := congrArg List.length g2; simp at this h2; omega
      | cons y ry =>
        have L1 := len_split g1
        try simp only [List.length_cons, List.length_nil] at L1
        have L2 := len_split g2
        try simp only [List.length_cons, List.length_nil] at L2
        have hc : iLt i (lenA ex) = true := lt_t e_iLt e_lenA (by omega)
        have ha := el_at e_atA hex g1 gi
        have hb := el_at e_atA hey g2 gi
        refine go rfl hX 1 (by conv => lhs; cbv; simp only [hc,ha,hb]; cbv; simp only [hc,ha,hb]; cbv; simp only [hc,ha,hb]; cbv) ?_ ?_
        · first | exact trivial | (simp only [Cd.ok, ee]; and_intros <;> first | omega | rfl | (simp <;> omega))
        refine qd_draw rfl rfl ?_
        refine qd_go hX 0 (by conv => lhs; cbv; simp only [ha,hb]; cbv; simp only [ha,hb]; cbv) ?_ ?_
        · simp only [Cd.ok, ee]; omega
        refine qd_pcall (args := [x.enc, y.enc]) rfl rfl rfl rfl (P37 x y (hx x (by rw [g1]; simp))) (closed2 (Chg.closed x) (Chg.closed y)) ?_
        generalize hd : decide (x = y) = dd
        refine qd_go hX 0 (by conv => lhs; cbv) ?_ ?_
        · first | exact trivial | (simp only [Cd.ok, ee]; and_intros <;> first | omega | rfl | (simp <;> omega))
        refine qd_nil ?_
        refine go rfl hX 0 (by conv => lhs; cbv) ?_ ?_
        · first | exact trivial | (simp only [Cd.ok, ee]; and_intros <;> first | omega | rfl | (simp <;> omega))
        refine on_cond rfl (fun h2 => ?_) (fun h2 => ?_)
        · simp [ee, decide_eq_true_eq, decide_eq_false_iff_not, Bool.and_eq_true, Bool.or_eq_true, Bool.not_eq_true', Bool.not_eq_false', Bool.and_eq_false_iff, Bool.or_eq_false_iff, bne_iff_ne, beq_iff_eq, beq_eq_false_iff_ne, bne_eq_false_iff_eq, ne_eq, Int.not_lt, Int.not_le, Decidable.not_not] at h2
          subst h2
          refine go rfl hX 0 (by conv => lhs; cbv) ?_ ?_
          · first | exact trivial | (simp only [Cd.ok, ee]; and_intros <;> first | omega | rfl | (simp <;> omega))
          refine loopP_ret ?_
          refine go rfl hX 0 (by conv => lhs; cbv) ?_ ?_
          · first | exact trivial | (simp only [Cd.ok, ee]; and_intros <;> first | omega | rfl | (simp <;> omega))
          refine fn_ret rfl rfl (.val ?_)
          have : xs ≠ ys := fun h => by
            rw [g1, g2] at h
            have := List.append_cancel_left h
            simp only [List.cons.injEq] at this
            obtain ⟨rfl, _⟩ := this
            simp at hd
          simp [this]
        · simp [ee, decide_eq_true_eq, decide_eq_false_iff_not, Bool.and_eq_true, Bool.or_eq_true, Bool.not_eq_true', Bool.not_eq_false', Bool.and_eq_false_iff, Bool.or_eq_false_iff, bne_iff_ne, beq_iff_eq, beq_eq_false_iff_ne, bne_eq_false_iff_eq, ne_eq, Int.not_lt, Int.not_le, Decidable.not_not] at h2
          subst h2
          refine go rfl hX 0 (by conv => lhs; cbv) ?_ ?_
          · first | exact trivial | (simp only [Cd.ok, ee]; and_intros <;> first | omega | rfl | (simp <;> omega))
          refine loopP_next (dx ++ [x], rx, dx ++ [x], ry, iAdd .i64 i 1) ⟨by simp [g1], ?_, ?_, rfl⟩ (by simp) (ent_fw ⟨.refl _, .refl _, .refl _, trivial⟩)
          · have := of_decide_eq_true hd
            simp [g2, this]
          · simp only [List.length_append, List.length_cons, List.length_nil]; exact inc_w e_iAdd gi (by omega)

def fewC (l : List Chg) : Bool := decide (∀ c ∈ l.take 30, c.bs.length ≤ 20) && decide (l.length ≤ 30)

theorem P21 (l : List Chg) (hl : Short l) : PCall EE 21 [.isl 3 (mapE Chg.enc l)] (.val (.bool (fewC l))) := by
  unfold Short at hl
  refine words fun iLt iLe iEq iNe iAdd iSub iMul iQuo iRem iShr iNeg iCvt iMax iMin bNot bEq bNe bAnd bOr sEq sNe sLen sCat sCut sAt lenA lenN iOf natOf atA atN cutA partA dropA catA setA repA putA idxN addN subN minN lenCut hX e_iLt e_iLe e_iEq e_iNe e_iAdd e_iSub e_iMul e_iQuo e_iRem e_iShr e_iNeg e_iCvt e_iMax e_iMin e_bNot e_bEq e_bNe e_bAnd e_bOr e_sEq e_sNe e_sLen e_sCat e_sCut e_sAt e_lenA e_lenN e_iOf e_natOf e_atA e_atN e_cutA e_partA e_dropA e_catA e_setA e_repA e_putA e_idxN e_addN e_subN e_minN e_lenCut ee => ?_
  generalize hes : mapE Chg.enc l = es
  have hel : es.length = l.length := by rw [← hes, mapE_len]
  refine fn_body (fn := Try.f21) (n := 25) (ac := Tryc21) (rvs := [.t 2]) rfl (by decide) Tryp21 rfl rfl rfl ?_
  refine go rfl hX 0 (by conv => lhs; cbv) ?_ ?_
  · first | exact trivial | (simp only [Cd.ok, ee]; and_intros <;> first | omega | rfl | (simp <;> omega))
  refine on_loopP (ι := List Chg × List Chg × Int) (fun p => ([(3, int p.2.2), (0, .isl 3 es)], [])) (fun p => l = p.1 ++ p.2.1 ∧ p.2.2 = p.1.length ∧ p.1.length ≤ 30 ∧ ∀ c ∈ p.1, c.bs.length ≤ 20) (fun p => p.2.1.length) ([], l, 0) ⟨rfl, rfl, by simp, by simp⟩ (ent_fw ⟨.refl _, .refl _, trivial⟩) ?_
  rintro ⟨d, r, i⟩ ⟨g1, gi, g2, g3⟩
  dsimp only at g1 gi g2 g3 ⊢
  have L1 := len_split g1
  try simp only [List.length_cons, List.length_nil] at L1
  refine go rfl hX 0 (by conv => lhs; cbv) ?_ ?_
  · first | exact trivial | (simp only [Cd.ok, ee]; and_intros <;> first | omega | rfl | (simp <;> omega))
  refine on_cond rfl (fun h1 => ?_) (fun h1 => ?_)
  · simp [ee, decide_eq_true_eq, decide_eq_false_iff_not, Bool.and_eq_true, Bool.or_eq_true, Bool.not_eq_true', Bool.not_eq_false', Bool.and_eq_false_iff, Bool.or_eq_false_iff, bne_iff_ne, beq_iff_eq, beq_eq_false_iff_ne, bne_eq_false_iff_eq, ne_eq, Int.not_lt, Int.not_le, Decidable.not_not, hel] at h1
    cases r with
    | nil => exfalso; simp at L1; omega
    | cons c r =>
      have L2 := len_split g1
      try simp only [List.length_cons, List.length_nil] at L2
      have ha := el_at e_atA hes g1 gi
      dsimp only [Chg.enc] at ha
      generalize hbs : mapE Bnd.enc c.bs = ebs at ha
      refine go rfl hX 0 (by conv => lhs; cbv; simp only [ha]; cbv) ?_ ?_
      · simp only [Cd.ok, ee]; omega
      have hbl : ebs.length = c.bs.length := by rw [← hbs, mapE_len]
      refine on_cond rfl (fun h2 => ?_) (fun h2 => ?_)
      · simp [ee, decide_eq_true_eq, decide_eq_false_iff_not, Bool.and_eq_true, Bool.or_eq_true, Bool.not_eq_true', Bool.not_eq_false', Bool.and_eq_false_iff, Bool.or_eq_false_iff, bne_iff_ne, beq_iff_eq, beq_eq_false_iff_ne, bne_eq_false_iff_eq, ne_eq, Int.not_lt, Int.not_le, Decidable.not_not, hbl] at h2
        refine go rfl hX 0 (by conv => lhs; cbv) ?_ ?_
        · first | exact trivial | (simp only [Cd.ok, ee]; and_intros <;> first | omega | rfl | (simp <;> omega))
        refine loopP_ret ?_
        refine go rfl hX 0 (by conv => lhs; cbv) ?_ ?_
        · first | exact trivial | (simp only [Cd.ok, ee]; and_intros <;> first | omega | rfl | (simp <;> omega))
        refine fn_ret rfl rfl (.val ?_)
        have hm : c ∈ l.take 30 := by
          rw [g1, List.take_append]
          refine List.mem_append.2 (.inr ?_)
          rw [show 30 - d.length = (29 - d.length) + 1 by omega]; simp
        have : fewC l = false := by
          unfold fewC
          rw [Bool.and_eq_false_iff]
          exact .inl (decide_eq_false fun h => by have := h c hm; omega)
        rw [this]
      · simp [ee, decide_eq_true_eq, decide_eq_false_iff_not, Bool.and_eq_true, Bool.or_eq_true, Bool.not_eq_true', Bool.not_eq_false', Bool.and_eq_false_iff, Bool.or_eq_false_iff, bne_iff_ne, beq_iff_eq, beq_eq_false_iff_ne, bne_eq_false_iff_eq, ne_eq, Int.not_lt, Int.not_le, Decidable.not_not, hbl] at h2
        refine go rfl hX 0 (by conv => lhs; cbv) ?_ ?_
        · first | exact trivial | (simp only [Cd.ok, ee]; and_intros <;> first | omega | rfl | (simp <;> omega))
        refine loopP_next (d ++ [c], r, iAdd .i64 i 1) ⟨by simp [g1], ?_, by simp; omega, ?_⟩ (by simp) (ent_fw ⟨.refl _, .refl _, trivial⟩)
        · simp only [List.length_append, List.length_cons, List.length_nil]; exact inc_w e_iAdd gi (by omega)
        · intro x hx
          rcases List.mem_append.1 hx with hx | hx
          · exact g3 x hx
          · simp at hx; subst hx; omega
  · simp [ee, decide_eq_true_eq, decide_eq_false_iff_not, Bool.and_eq_true, Bool.or_eq_true, Bool.not_eq_true', Bool.not_eq_false', Bool.and_eq_false_iff, Bool.or_eq_false_iff, bne_iff_ne, beq_iff_eq, beq_eq_false_iff_ne, bne_eq_false_iff_eq, ne_eq, Int.not_lt, Int.not_le, Decidable.not_not, hel] at h1
    refine go rfl hX 0 (by conv => lhs; cbv) ?_ ?_
    · first | exact trivial | (simp only [Cd.ok, ee]; and_intros <;> first | omega | rfl | (simp <;> omega))
    refine loopP_exit ?_
    refine go rfl hX 0 (by conv => lhs; cbv) ?_ ?_
    · first | exact trivial | (simp only [Cd.ok, ee]; and_intros <;> first | omega | rfl | (simp <;> omega))
    refine fn_ret rfl rfl (.val ?_)
    have : fewC l = decide (l.length ≤ 30) := by
      unfold fewC
      rw [Bool.and_eq_right_iff_imp]
      intro h
      have h := of_decide_eq_true h
      refine decide_eq_true fun c hc => g3 c ?_
      cases r with
      | nil => rw [g1, List.append_nil] at hc; exact List.mem_of_mem_take hc
      | cons x r => exfalso; simp at L1; omega
    rw [this]
    simp [ee, decide_eq_true_eq, decide_eq_false_iff_not, Bool.and_eq_true, Bool.or_eq_true, Bool.not_eq_true', Bool.not_eq_false', Bool.and_eq_false_iff, Bool.or_eq_false_iff, bne_iff_ne, beq_iff_eq, beq_eq_false_iff_ne, bne_eq_false_iff_eq, ne_eq, Int.not_lt, Int.not_le, Decidable.not_not, hel] <;> omega
end Go.Am
end
section
set_option linter.unusedVariables false
set_option linter.unusedSimpArgs false
set_option maxRecDepth 20000
namespace Go.Am
open Go.Proofs

theorem fitC (c : Chg) : fitB 3 [c.enc] = true := rfl
theorem mapE_snoc {α : Type} (e : α → AV) (d : List α) (c : α) : mapE e d ++ [e c] = mapE e (d ++ [c]) := by simp [mapE_eq]

theorem P40 (a b : List Chg) (hb : a.length + b.length < 500000000000) : PCall EE 40 [.isl 3 (mapE Chg.enc a), .isl 3 (mapE Chg.enc b)] (.isl 3 (mapE Chg.enc (a ++ b))) := by
  refine words fun iLt iLe iEq iNe iAdd iSub iMul iQuo iRem iShr iNeg iCvt iMax iMin bNot bEq bNe bAnd bOr sEq sNe sLen sCat sCut sAt lenA lenN iOf natOf atA atN cutA partA dropA catA setA repA putA idxN addN subN minN lenCut hX e_iLt e_iLe e_iEq e_iNe e_iAdd e_iSub e_iMul e_iQuo e_iRem e_iShr e_iNeg e_iCvt e_iMax e_iMin e_bNot e_bEq e_bNe e_bAnd e_bOr e_sEq e_sNe e_sLen e_sCat e_sCut e_sAt e_lenA e_lenN e_iOf e_natOf e_atA e_atN e_cutA e_partA e_dropA e_catA e_setA e_repA e_putA e_idxN e_addN e_subN e_minN e_lenCut ee => ?_
  generalize hea : mapE Chg.enc a = ea
  generalize heb : mapE Chg.enc b = eb
  have hal : ea.length = a.length := by rw [← hea, mapE_len]
  have hbl : eb.length = b.length := by rw [← heb, mapE_len]
  have hca : (AV.isl 3 ea).closed = true := by rw [← hea]; exact closedC a
  have hcb : (AV.isl 3 eb).closed = true := by rw [← heb]; exact closedC b
  refine fn_body (fn := Try.f40) (n := 35) (ac := Tryc40) (rvs := [.t 4]) rfl (by decide) Tryp40 rfl rfl rfl ?_
  refine go rfl hX 0 (by conv => lhs; cbv) ?_ ?_
  · first | exact trivial | (simp only [Cd.ok, ee]; and_intros <;> first | omega | rfl | (simp <;> omega))
  refine on_loopP (ι := List Chg × List Chg × Int × Nat × List AV) (fun p => ([(6, int p.2.2.1), (0, .isl 3 ea), (1, .isl 3 eb), (5, .sl 0 3 0 p.2.2.2.1)], [.arr 3 p.2.2.2.2])) (fun p => a = p.1 ++ p.2.1 ∧ p.2.2.1 = p.1.length ∧ p.2.2.2.1 = p.1.length ∧ p.2.2.2.2 = mapE Chg.enc p.1) (fun p => p.2.1.length) ([], a, 0, 0, []) ⟨rfl, rfl, rfl, by simp [mapE_eq]⟩
    (ent_sub [] [none] trivial ⟨.none 3 rfl, trivial⟩ ⟨.refl _, .cl hca, .cl hcb, .nilS 0 3 0 (Nat.zero_lt_succ _), trivial⟩) ?_
  rintro ⟨d, r, i, n, es⟩ ⟨g1, gi, gn, ge⟩
  dsimp only at g1 gi gn ge ⊢
  have hel : es.length = d.length := by rw [ge, mapE_len]
  cases r with
  | nil =>
    have L1 := len_split g1
    try simp only [List.length_cons, List.length_nil] at L1
    have hc : iLt i (lenA ea) = false := lt_f e_iLt e_lenA (by omega)
    refine go rfl hX 1 (by conv => lhs; cbv; simp only [hc]; cbv) ?_ ?_
    · first | exact trivial | (simp only [Cd.ok, ee]; and_intros <;> first | omega | rfl | (simp <;> omega))
    refine loopP_exit ?_
    refine go rfl hX 0 (by conv => lhs; cbv) ?_ ?_
    · first | exact trivial | (simp only [Cd.ok, ee]; and_intros <;> first | omega | rfl | (simp <;> omega))
    have hda : d = a := by rw [g1, List.append_nil]
    refine on_loopP (ι := List Chg × List Chg × Int × Nat × List AV) (fun p => ([(7, int p.2.2.1), (1, .isl 3 eb), (5, .sl 0 3 0 p.2.2.2.1)], [.arr 3 p.2.2.2.2])) (fun p => b = p.1 ++ p.2.1 ∧ p.2.2.1 = p.1.length ∧ p.2.2.2.1 = a.length + p.1.length ∧ p.2.2.2.2 = mapE Chg.enc (a ++ p.1)) (fun p => p.2.1.length) ([], b, 0, n, es) ⟨rfl, rfl, by simp [gn, hda], by simp [ge, hda]⟩
      (ent_fw ⟨.refl _, .refl _, .refl _, trivial⟩) ?_
    clear gn ge hel L1 g1 gi hc
    rintro ⟨d, r, i, n, es⟩ ⟨g1, gi, gn, ge⟩
    dsimp only at g1 gi gn ge ⊢
    have hel : es.length = a.length + d.length := by rw [ge, mapE_len, List.length_append]
    cases r with
    | nil =>
      have L1 := len_split g1
      try simp only [List.length_cons, List.length_nil] at L1
      have hc : iLt i (lenA eb) = false := lt_f e_iLt e_lenA (by omega)
      refine go rfl hX 1 (by conv => lhs; cbv; simp only [hc]; cbv) ?_ ?_
      · first | exact trivial | (simp only [Cd.ok, ee]; and_intros <;> first | omega | rfl | (simp <;> omega))
      refine loopP_exit ?_
      refine go rfl hX 0 (by conv => lhs; cbv) ?_ ?_
      · first | exact trivial | (simp only [Cd.ok, ee]; and_intros <;> first | omega | rfl | (simp <;> omega))
      refine fn_ret rfl rfl ?_
      rw [List.append_nil] at g1
      exact fz_whole (by omega) (closed_mapE Chg.closed _) (by rw [ge, g1])
    | cons c r =>
      have L1 := len_split g1
      try simp only [List.length_cons, List.length_nil] at L1
      have hc : iLt i (lenA eb) = true := lt_t e_iLt e_lenA (by omega)
      have ha := el_at e_atA heb g1 gi
      refine go rfl hX 1 (by conv => lhs; cbv; simp only [hc,ha]; cbv; simp only [hc,ha]; cbv) ?_ ?_
      · first | exact trivial | (simp only [Cd.ok, ee]; and_intros <;> first | omega | rfl | (simp <;> omega))
      refine loopP_next (d ++ [c], r, iAdd .i64 i 1, n + 1, mapE Chg.enc (a ++ (d ++ [c]))) ⟨by simp [g1], ?_, by simp [gn]; omega, rfl⟩ (by simp) (ent_sub [.gone, .gone, .to 0] [some 2] ⟨trivial, trivial, ⟨Nat.zero_lt_succ _, rfl⟩, trivial⟩ ⟨osrc_arr rfl rfl rfl ?_ (closed_mapE Chg.closed _), trivial⟩ ⟨.refl _, .cl hcb, .of ?_, trivial⟩)
      · simp only [List.length_append, List.length_cons, List.length_nil]; exact inc_w e_iAdd gi (by omega)
      · simp only [ee]
        show es.drop 0 ++ [c.enc] = _
        rw [List.drop_zero, ge, mapE_snoc, List.append_assoc]
      · simp only [ee]; rfl
  | cons c r =>
    have L1 := len_split g1
    try simp only [List.length_cons, List.length_nil] at L1
    have hc : iLt i (lenA ea) = true := lt_t e_iLt e_lenA (by omega)
    have ha := el_at e_atA hea g1 gi
    refine go rfl hX 1 (by conv => lhs; cbv; simp only [hc,ha]; cbv; simp only [hc,ha]; cbv) ?_ ?_
    · first | exact trivial | (simp only [Cd.ok, ee]; and_intros <;> first | omega | rfl | (simp <;> omega))
    refine loopP_next (d ++ [c], r, iAdd .i64 i 1, n + 1, mapE Chg.enc (d ++ [c])) ⟨by simp [g1], ?_, by simp [gn], rfl⟩ (by simp) (ent_sub [.gone, .gone, .to 0] [some 2] ⟨trivial, trivial, ⟨Nat.zero_lt_succ _, rfl⟩, trivial⟩ ⟨osrc_arr rfl rfl rfl ?_ (closed_mapE Chg.closed _), trivial⟩ ⟨.refl _, .cl hca, .cl hcb, .of ?_, trivial⟩)
    · simp only [List.length_append, List.length_cons, List.length_nil]; exact inc_w e_iAdd gi (by omega)
    · simp only [ee]
      show es.drop 0 ++ [c.enc] = _
      rw [List.drop_zero, ge, mapE_snoc]
    · simp only [ee]; rfl
end Go.Am
end
section
set_option linter.unusedVariables false
set_option linter.unusedSimpArgs false
set_option maxRecDepth 20000
namespace Go.Am
open Go.Proofs

def sumL : List Bat → Nat
  | [] => 0
  | b :: r => b.cs.length + sumL r
theorem sumL_append (a b : List Bat) : sumL (a ++ b) = sumL a + sumL b := by
  induction a with
  | nil => simp [sumL]
  | cons x r ih => simp only [List.cons_append, sumL, ih]; omega
def countF (s : Snk) : Nat := s.com.length + sumL s.pend

theorem P36 (s : Snk) (hs : Short s.pend) (hc : countF s < 1152921504606846976) : PCall EE 36 [s.enc] (int (countF s)) := by
  obtain ⟨e, com, pend⟩ := s
  unfold Short at hs
  unfold countF at hc
  dsimp only at hs hc
  refine words fun iLt iLe iEq iNe iAdd iSub iMul iQuo iRem iShr iNeg iCvt iMax iMin bNot bEq bNe bAnd bOr sEq sNe sLen sCat sCut sAt lenA lenN iOf natOf atA atN cutA partA dropA catA setA repA putA idxN addN subN minN lenCut hX e_iLt e_iLe e_iEq e_iNe e_iAdd e_iSub e_iMul e_iQuo e_iRem e_iShr e_iNeg e_iCvt e_iMax e_iMin e_bNot e_bEq e_bNe e_bAnd e_bOr e_sEq e_sNe e_sLen e_sCat e_sCut e_sAt e_lenA e_lenN e_iOf e_natOf e_atA e_atN e_cutA e_partA e_dropA e_catA e_setA e_repA e_putA e_idxN e_addN e_subN e_minN e_lenCut ee => ?_
  unfold Snk.enc countF
  dsimp only
  generalize hec : mapE Chg.enc com = ec
  generalize hep : mapE Bat.enc pend = ep
  have hcl : ec.length = com.length := by rw [← hec, mapE_len]
  have hpl : ep.length = pend.length := by rw [← hep, mapE_len]
  refine fn_body (fn := Try.f36) (n := 25) (ac := Tryc36) (rvs := [.t 2]) rfl (by decide) Tryp36 rfl rfl rfl ?_
  refine go rfl hX 0 (by conv => lhs; cbv) ?_ ?_
  · first | exact trivial | (simp only [Cd.ok, ee]; and_intros <;> first | omega | rfl | (simp <;> omega))
  refine on_loopP (ι := List Bat × List Bat × Int × Int) (fun p => ([(4, int p.2.2.1), (1, .ptr 0 0), (3, int p.2.2.2)], [.cells [int e, .isl 3 ec, .isl 2 ep]])) (fun p => pend = p.1 ++ p.2.1 ∧ p.2.2.1 = p.1.length ∧ p.2.2.2 = com.length + sumL p.1) (fun p => p.2.1.length) ([], pend, 0, lenA ec) ⟨rfl, rfl, by simp [ee, hcl, sumL]⟩ (ent_fw ⟨.refl _, .refl _, .refl _, trivial⟩) ?_
  rintro ⟨d, r, i, n⟩ ⟨g1, gi, gn⟩
  dsimp only at g1 gi gn ⊢
  cases r with
  | nil =>
    have L1 := len_split g1
    try simp only [List.length_cons, List.length_nil] at L1
    have hcc : iLt i (lenA ep) = false := lt_f e_iLt e_lenA (by omega)
    refine go rfl hX 1 (by conv => lhs; cbv; simp only [hcc]; cbv) ?_ ?_
    · first | exact trivial | (simp only [Cd.ok, ee]; and_intros <;> first | omega | rfl | (simp <;> omega))
    refine loopP_exit ?_
    refine go rfl hX 0 (by conv => lhs; cbv) ?_ ?_
    · first | exact trivial | (simp only [Cd.ok, ee]; and_intros <;> first | omega | rfl | (simp <;> omega))
    refine fn_ret rfl rfl (.val ?_)
    rw [List.append_nil] at g1
    rw [gn, g1]; rfl
  | cons b r =>
    have L1 := len_split g1
    try simp only [List.length_cons, List.length_nil] at L1
    have hsum : sumL pend = sumL d + (b.cs.length + sumL r) := by rw [g1, sumL_append]; rfl
    have hcc : iLt i (lenA ep) = true := lt_t e_iLt e_lenA (by omega)
    have ha := el_at e_atA hep g1 gi
    dsimp only [Bat.enc] at ha
    generalize hbs : mapE Chg.enc b.cs = ebs at ha
    have hbl : ebs.length = b.cs.length := by rw [← hbs, mapE_len]
    refine go rfl hX 1 (by conv => lhs; cbv; simp only [hcc,ha]; cbv; simp only [hcc,ha]; cbv) ?_ ?_
    · first | exact trivial | (simp only [Cd.ok, ee]; and_intros <;> first | omega | rfl | (simp <;> omega))
    refine loopP_next (d ++ [b], r, iAdd .i64 i 1, iAdd .i64 n (lenA ebs)) ⟨by simp [g1], ?_, ?_⟩ (by simp) (ent_fw ⟨.refl _, .refl _, .refl _, trivial⟩)
    · simp only [List.length_append, List.length_cons, List.length_nil]; exact inc_w e_iAdd gi (by omega)
    · have hle : lenA ebs = b.cs.length := by simp [ee, hbl]
      have hadd : iAdd .i64 n (lenA ebs) = n + b.cs.length := by rw [hle]; exact add_w e_iAdd (by omega) (by omega)
      dsimp only
      rw [hadd, gn, sumL_append]
      simp [sumL]; omega

open Classical in
noncomputable def batchF (e : Int) (prev : Option Int) (b : Bat) : Int :=
  if b.epoch > 1099511627776 ∨ b.epoch ≤ e then 29 else if (∃ p, prev = some p ∧ b.epoch ≤ p) then 14 else if b.cs = [] then 3 else changesF b.cs
def lastE : List Bat → Option Int := fun d => d.getLast?.map (·.epoch)
noncomputable def batsF (e : Int) : Option Int → List Bat → Int
  | _, [] => 0
  | p, b :: r => if batchF e p b ≠ 0 then batchF e p b else batsF e (some b.epoch) r

theorem P35 (s : Snk) (d r : List Bat) (b : Bat) (i : Int) (hp : s.pend = d ++ b :: r) (hi : i = d.length) (hs : Short s.pend) (hb : Short b.cs) : PCall EE 35 [s.enc, int i] (int (batchF s.epoch (lastE d) b)) := by
  obtain ⟨e, com, pend⟩ := s
  obtain ⟨be, bcs⟩ := b
  unfold Short at hs
  dsimp only at hs hp hb ⊢
  refine words fun iLt iLe iEq iNe iAdd iSub iMul iQuo iRem iShr iNeg iCvt iMax iMin bNot bEq bNe bAnd bOr sEq sNe sLen sCat sCut sAt lenA lenN iOf natOf atA atN cutA partA dropA catA setA repA putA idxN addN subN minN lenCut hX e_iLt e_iLe e_iEq e_iNe e_iAdd e_iSub e_iMul e_iQuo e_iRem e_iShr e_iNeg e_iCvt e_iMax e_iMin e_bNot e_bEq e_bNe e_bAnd e_bOr e_sEq e_sNe e_sLen e_sCat e_sCut e_sAt e_lenA e_lenN e_iOf e_natOf e_atA e_atN e_cutA e_partA e_dropA e_catA e_setA e_repA e_putA e_idxN e_addN e_subN e_minN e_lenCut ee => ?_
  unfold Snk.enc
  dsimp only
  generalize hec : mapE Chg.enc com = ec
  generalize hep : mapE Bat.enc pend = ep
  have hpl : ep.length = pend.length := by rw [← hep, mapE_len]
  have L1 := len_split hp
  try simp only [List.length_cons, List.length_nil] at L1
  have ha := el_at e_atA hep hp hi
  dsimp only [Bat.enc] at ha
  have hprev : ∃ pe x, atA ep (iSub .i64 i 1) = .agg [int pe, .isl 3 x] ∧ ∀ p, lastE d = some p → p = pe := by
    rw [sub_w e_iSub (by omega) (by omega)]
    rcases List.eq_nil_or_concat d with rfl | ⟨d', q, rfl⟩
    · exact ⟨_, _, el_at0 (enc := Bat.enc) (d := []) e_atA hep hp (by simp [hi]), fun p h => by simp [lastE] at h⟩
    · rw [List.concat_eq_append] at hp hi ⊢
      refine ⟨_, _, el_at0 (enc := Bat.enc) (d := d') (c := q) e_atA hep (by rw [hp, List.append_assoc]; rfl) (by simp [hi]), fun p h => ?_⟩
      simp [lastE] at h; exact h.symm
  obtain ⟨pe, x, hpa, hpe⟩ := hprev
  have hd0 : (0 < i) ↔ d ≠ [] := by rw [hi, List.ne_nil_iff_length_pos]; omega
  generalize hbs : mapE Chg.enc bcs = ebs at ha
  have hbl : ebs.length = bcs.length := by rw [← hbs, mapE_len]
  refine fn_body (fn := Try.f35) (n := 42) (ac := Tryc35) (rvs := [.t 4]) rfl (by decide) Tryp35 rfl rfl rfl ?_
  refine go rfl hX 0 (by conv => lhs; cbv; simp only [ha]; cbv) ?_ ?_
  · first | exact trivial | (simp only [Cd.ok, ee]; and_intros <;> first | omega | rfl | (simp <;> omega))
  refine on_cond rfl (fun h1 => ?_) (fun h1 => ?_)
  · simp [ee, decide_eq_true_eq, decide_eq_false_iff_not, Bool.and_eq_true, Bool.or_eq_true, Bool.not_eq_true', Bool.not_eq_false', Bool.and_eq_false_iff, Bool.or_eq_false_iff, bne_iff_ne, beq_iff_eq, beq_eq_false_iff_ne, bne_eq_false_iff_eq, ne_eq, Int.not_lt, Int.not_le, Decidable.not_not] at h1
    refine go rfl hX 0 (by conv => lhs; cbv) ?_ ?_
    · first | exact trivial | (simp only [Cd.ok, ee]; and_intros <;> first | omega | rfl | (simp <;> omega))
    refine fn_ret rfl rfl (.val ?_)
    unfold batchF; dsimp only; rw [if_pos (by omega)]
  simp [ee, decide_eq_true_eq, decide_eq_false_iff_not, Bool.and_eq_true, Bool.or_eq_true, Bool.not_eq_true', Bool.not_eq_false', Bool.and_eq_false_iff, Bool.or_eq_false_iff, bne_iff_ne, beq_iff_eq, beq_eq_false_iff_ne, bne_eq_false_iff_eq, ne_eq, Int.not_lt, Int.not_le, Decidable.not_not] at h1
  refine go rfl hX 0 (by conv => lhs; cbv; simp only [hpa]; cbv) ?_ ?_
  · simp only [Cd.ok, ee]; (simp only [Wd.iLt, decide_eq_true_eq]; intro h; rw [wrap64 (by omega) (by omega)]; omega)
  refine on_cond rfl (fun h2 => ?_) (fun h2 => ?_)
  · simp [ee, decide_eq_true_eq, decide_eq_false_iff_not, Bool.and_eq_true, Bool.or_eq_true, Bool.not_eq_true', Bool.not_eq_false', Bool.and_eq_false_iff, Bool.or_eq_false_iff, bne_iff_ne, beq_iff_eq, beq_eq_false_iff_ne, bne_eq_false_iff_eq, ne_eq, Int.not_lt, Int.not_le, Decidable.not_not] at h2
    refine go rfl hX 0 (by conv => lhs; cbv) ?_ ?_
    · first | exact trivial | (simp only [Cd.ok, ee]; and_intros <;> first | omega | rfl | (simp <;> omega))
    refine fn_ret rfl rfl (.val ?_)
    have hne : lastE d = some pe := by
      cases hl : lastE d with
      | none => exfalso; have := hd0.1 h2.1; simp [lastE] at hl; exact this hl
      | some p => rw [hpe p hl]
    unfold batchF; dsimp only; rw [if_neg (by omega), if_pos ⟨pe, hne, h2.2⟩]
  simp [ee, decide_eq_true_eq, decide_eq_false_iff_not, Bool.and_eq_true, Bool.or_eq_true, Bool.not_eq_true', Bool.not_eq_false', Bool.and_eq_false_iff, Bool.or_eq_false_iff, bne_iff_ne, beq_iff_eq, beq_eq_false_iff_ne, bne_eq_false_iff_eq, ne_eq, Int.not_lt, Int.not_le, Decidable.not_not] at h2
  have hnl : ¬ ∃ p, lastE d = some p ∧ be ≤ p := by
    rintro ⟨p, h3, h4⟩
    have := hpe p h3
    have hdn : d ≠ [] := by rintro rfl; simp [lastE] at h3
    have := h2 (hd0.2 hdn)
    omega
  refine go rfl hX 0 (by conv => lhs; cbv) ?_ ?_
  · first | exact trivial | (simp only [Cd.ok, ee]; and_intros <;> first | omega | rfl | (simp <;> omega))
  refine on_cond rfl (fun h3 => ?_) (fun h3 => ?_)
  · simp [ee, decide_eq_true_eq, decide_eq_false_iff_not, Bool.and_eq_true, Bool.or_eq_true, Bool.not_eq_true', Bool.not_eq_false', Bool.and_eq_false_iff, Bool.or_eq_false_iff, bne_iff_ne, beq_iff_eq, beq_eq_false_iff_ne, bne_eq_false_iff_eq, ne_eq, Int.not_lt, Int.not_le, Decidable.not_not, hbl] at h3
    refine go rfl hX 0 (by conv => lhs; cbv) ?_ ?_
    · first | exact trivial | (simp only [Cd.ok, ee]; and_intros <;> first | omega | rfl | (simp <;> omega))
    refine fn_ret rfl rfl (.val ?_)
    unfold batchF; dsimp only; rw [if_neg (by omega), if_neg hnl, if_pos h3]
  simp [ee, decide_eq_true_eq, decide_eq_false_iff_not, Bool.and_eq_true, Bool.or_eq_true, Bool.not_eq_true', Bool.not_eq_false', Bool.and_eq_false_iff, Bool.or_eq_false_iff, bne_iff_ne, beq_iff_eq, beq_eq_false_iff_ne, bne_eq_false_iff_eq, ne_eq, Int.not_lt, Int.not_le, Decidable.not_not, hbl] at h3
  rw [← hbs]
  refine go rfl hX 0 (by conv => lhs; cbv) ?_ ?_
  · first | exact trivial | (simp only [Cd.ok, ee]; and_intros <;> first | omega | rfl | (simp <;> omega))
  refine on_pcall (args := [.isl 3 (mapE Chg.enc bcs)]) rfl rfl rfl (P34 bcs hb) (closed1 (closedC _)) ?_
  generalize he : changesF bcs = ce
  refine go rfl hX 0 (by conv => lhs; cbv) ?_ ?_
  · first | exact trivial | (simp only [Cd.ok, ee]; and_intros <;> first | omega | rfl | (simp <;> omega))
  refine fn_ret rfl rfl (.val ?_)
  unfold batchF; dsimp only; rw [if_neg (by omega), if_neg hnl, if_neg h3, he]
end Go.Am
end
section
set_option linter.unusedVariables false
set_option linter.unusedSimpArgs false
set_option maxRecDepth 20000
namespace Go.Am
open Go.Proofs

noncomputable def checkF (s : Snk) : Int :=
  if s.epoch < 0 ∨ 1099511627776 < s.epoch then 2 else if 256 < s.pend.length then 5 else if changesF s.com ≠ 0 then changesF s.com
  else if batsF s.epoch none s.pend ≠ 0 then batsF s.epoch none s.pend else if 4096 < countF s then 27 else 0

theorem lastE_snoc (d : List Bat) (b : Bat) : lastE (d ++ [b]) = some b.epoch := by simp [lastE]

theorem P13 (s : Snk) (hf : s.Fine) (hc : countF s < 1152921504606846976) : PCall EE 13 [s.enc] (int (checkF s)) := by
  have P34c := P34 s.com hf.com.1
  have P36c := P36 s hf.pend hc
  have P35c := fun d r b i hp hi => P35 s d r b i hp hi hf.pend (hf.bats b (by rw [hp]; simp)).1
  have hsp := hf.pend
  unfold Short at hsp
  have hclosed := Snk.closed s
  have hcf : checkF s = checkF s := rfl
  generalize hcs : countF s = cnt at P36c hc
  generalize hch : changesF s.com = ch at P34c
  unfold checkF at hcf ⊢
  rw [hcs, hch]
  clear hcf hf
  obtain ⟨e, com, pend⟩ := s
  dsimp only at *
  refine words fun iLt iLe iEq iNe iAdd iSub iMul iQuo iRem iShr iNeg iCvt iMax iMin bNot bEq bNe bAnd bOr sEq sNe sLen sCat sCut sAt lenA lenN iOf natOf atA atN cutA partA dropA catA setA repA putA idxN addN subN minN lenCut hX e_iLt e_iLe e_iEq e_iNe e_iAdd e_iSub e_iMul e_iQuo e_iRem e_iShr e_iNeg e_iCvt e_iMax e_iMin e_bNot e_bEq e_bNe e_bAnd e_bOr e_sEq e_sNe e_sLen e_sCat e_sCut e_sAt e_lenA e_lenN e_iOf e_natOf e_atA e_atN e_cutA e_partA e_dropA e_catA e_setA e_repA e_putA e_idxN e_addN e_subN e_minN e_lenCut ee => ?_
  have henc : (⟨e, com, pend⟩ : Snk).enc = .agg [int e, .isl 3 (mapE Chg.enc com), .isl 2 (mapE Bat.enc pend)] := rfl
  simp only [henc] at P36c hclosed P35c ⊢
  have hcc : (AV.isl 3 (mapE Chg.enc com)).closed = true := closedC com
  generalize hec : mapE Chg.enc com = ec at P34c P36c P35c hclosed hcc ⊢
  generalize hep : mapE Bat.enc pend = ep at P36c P35c hclosed ⊢
  have hpl : ep.length = pend.length := by rw [← hep, mapE_len]
  refine fn_body (fn := Try.f13) (n := 40) (ac := Tryc13) (rvs := [.t 2]) rfl (by decide) Tryp13 rfl rfl rfl ?_
  refine go rfl hX 0 (by conv => lhs; cbv) ?_ ?_
  · first | exact trivial | (simp only [Cd.ok, ee]; and_intros <;> first | omega | rfl | (simp <;> omega))
  refine on_cond rfl (fun h1 => ?_) (fun h1 => ?_)
  · simp [ee, decide_eq_true_eq, decide_eq_false_iff_not, Bool.and_eq_true, Bool.or_eq_true, Bool.not_eq_true', Bool.not_eq_false', Bool.and_eq_false_iff, Bool.or_eq_false_iff, bne_iff_ne, beq_iff_eq, beq_eq_false_iff_ne, bne_eq_false_iff_eq, ne_eq, Int.not_lt, Int.not_le, Decidable.not_not] at h1
    refine go rfl hX 0 (by conv => lhs; cbv) ?_ ?_
    · first | exact trivial | (simp only [Cd.ok, ee]; and_intros <;> first | omega | rfl | (simp <;> omega))
    refine fn_ret rfl rfl (.val ?_)
    rw [if_pos (by omega)]
  simp [ee, decide_eq_true_eq, decide_eq_false_iff_not, Bool.and_eq_true, Bool.or_eq_true, Bool.not_eq_true', Bool.not_eq_false', Bool.and_eq_false_iff, Bool.or_eq_false_iff, bne_iff_ne, beq_iff_eq, beq_eq_false_iff_ne, bne_eq_false_iff_eq, ne_eq, Int.not_lt, Int.not_le, Decidable.not_not] at h1
  rw [if_neg (by omega)]
  refine go rfl hX 0 (by conv => lhs; cbv) ?_ ?_
  · first | exact trivial | (simp only [Cd.ok, ee]; and_intros <;> first | omega | rfl | (simp <;> omega))
  refine on_cond rfl (fun h2 => ?_) (fun h2 => ?_)
  · simp [ee, decide_eq_true_eq, decide_eq_false_iff_not, Bool.and_eq_true, Bool.or_eq_true, Bool.not_eq_true', Bool.not_eq_false', Bool.and_eq_false_iff, Bool.or_eq_false_iff, bne_iff_ne, beq_iff_eq, beq_eq_false_iff_ne, bne_eq_false_iff_eq, ne_eq, Int.not_lt, Int.not_le, Decidable.not_not, hpl] at h2
    refine go rfl hX 0 (by conv => lhs; cbv) ?_ ?_
    · first | exact trivial | (simp only [Cd.ok, ee]; and_intros <;> first | omega | rfl | (simp <;> omega))
    refine fn_ret rfl rfl (.val ?_)
    rw [if_pos (by omega)]
  simp [ee, decide_eq_true_eq, decide_eq_false_iff_not, Bool.and_eq_true, Bool.or_eq_true, Bool.not_eq_true', Bool.not_eq_false', Bool.and_eq_false_iff, Bool.or_eq_false_iff, bne_iff_ne, beq_iff_eq, beq_eq_false_iff_ne, bne_eq_false_iff_eq, ne_eq, Int.not_lt, Int.not_le, Decidable.not_not, hpl] at h2
  rw [if_neg (by omega)]
  refine go rfl hX 0 (by conv => lhs; cbv) ?_ ?_
  · first | exact trivial | (simp only [Cd.ok, ee]; and_intros <;> first | omega | rfl | (simp <;> omega))
  refine on_pcall rfl rfl rfl P34c (closed1 hcc) ?_
  refine go rfl hX 0 (by conv => lhs; cbv) ?_ ?_
  · first | exact trivial | (simp only [Cd.ok, ee]; and_intros <;> first | omega | rfl | (simp <;> omega))
  refine on_cond rfl (fun h3 => ?_) (fun h3 => ?_)
  · simp [ee, decide_eq_true_eq, decide_eq_false_iff_not, Bool.and_eq_true, Bool.or_eq_true, Bool.not_eq_true', Bool.not_eq_false', Bool.and_eq_false_iff, Bool.or_eq_false_iff, bne_iff_ne, beq_iff_eq, beq_eq_false_iff_ne, bne_eq_false_iff_eq, ne_eq, Int.not_lt, Int.not_le, Decidable.not_not] at h3
    refine go rfl hX 0 (by conv => lhs; cbv) ?_ ?_
    · first | exact trivial | (simp only [Cd.ok, ee]; and_intros <;> first | omega | rfl | (simp <;> omega))
    refine fn_ret rfl rfl (.val ?_)
    rw [if_pos h3]
  simp [ee, decide_eq_true_eq, decide_eq_false_iff_not, Bool.and_eq_true, Bool.or_eq_true, Bool.not_eq_true', Bool.not_eq_false', Bool.and_eq_false_iff, Bool.or_eq_false_iff, bne_iff_ne, beq_iff_eq, beq_eq_false_iff_ne, bne_eq_false_iff_eq, ne_eq, Int.not_lt, Int.not_le, Decidable.not_not] at h3
  subst h3
  rw [if_neg (by simp)]
  refine go rfl hX 0 (by conv => lhs; cbv) ?_ ?_
  · first | exact trivial | (simp only [Cd.ok, ee]; and_intros <;> first | omega | rfl | (simp <;> omega))
  refine on_loopP (ι := List Bat × List Bat × Int) (fun p => ([(4, int p.2.2), (1, .ptr 0 0)], [.cells [int e, .isl 3 ec, .isl 2 ep]])) (fun p => pend = p.1 ++ p.2.1 ∧ p.2.2 = p.1.length ∧ batsF e none pend = batsF e (lastE p.1) p.2.1) (fun p => p.2.1.length) ([], pend, 0) ⟨rfl, rfl, rfl⟩ (ent_fw ⟨.refl _, .refl _, trivial⟩) ?_
  rintro ⟨d, r, i⟩ ⟨g1, gi, gb⟩
  dsimp only at g1 gi gb ⊢
  cases r with
  | nil =>
    have L1 := len_split g1
    try simp only [List.length_cons, List.length_nil] at L1
    have hcc : iLt i (lenA ep) = false := lt_f e_iLt e_lenA (by omega)
    refine go rfl hX 1 (by conv => lhs; cbv; simp only [hcc]; cbv) ?_ ?_
    · first | exact trivial | (simp only [Cd.ok, ee]; and_intros <;> first | omega | rfl | (simp <;> omega))
    refine loopP_exit ?_
    refine go rfl hX 0 (by conv => lhs; cbv) ?_ ?_
    · first | exact trivial | (simp only [Cd.ok, ee]; and_intros <;> first | omega | rfl | (simp <;> omega))
    refine on_pcall rfl rfl rfl P36c (closed1 hclosed) ?_
    generalize hcz : (cnt : Int) = cz
    refine go rfl hX 0 (by conv => lhs; cbv) ?_ ?_
    · first | exact trivial | (simp only [Cd.ok, ee]; and_intros <;> first | omega | rfl | (simp <;> omega))
    have hb0 : batsF e none pend = 0 := by rw [gb]; rfl
    rw [hb0, if_neg (by simp)]
    refine on_cond rfl (fun h4 => ?_) (fun h4 => ?_)
    · simp [ee, decide_eq_true_eq, decide_eq_false_iff_not, Bool.and_eq_true, Bool.or_eq_true, Bool.not_eq_true', Bool.not_eq_false', Bool.and_eq_false_iff, Bool.or_eq_false_iff, bne_iff_ne, beq_iff_eq, beq_eq_false_iff_ne, bne_eq_false_iff_eq, ne_eq, Int.not_lt, Int.not_le, Decidable.not_not] at h4
      refine go rfl hX 0 (by conv => lhs; cbv) ?_ ?_
      · first | exact trivial | (simp only [Cd.ok, ee]; and_intros <;> first | omega | rfl | (simp <;> omega))
      refine fn_ret rfl rfl (.val ?_)
      rw [if_pos (by omega)]
    · simp [ee, decide_eq_true_eq, decide_eq_false_iff_not, Bool.and_eq_true, Bool.or_eq_true, Bool.not_eq_true', Bool.not_eq_false', Bool.and_eq_false_iff, Bool.or_eq_false_iff, bne_iff_ne, beq_iff_eq, beq_eq_false_iff_ne, bne_eq_false_iff_eq, ne_eq, Int.not_lt, Int.not_le, Decidable.not_not] at h4
      refine go rfl hX 0 (by conv => lhs; cbv) ?_ ?_
      · first | exact trivial | (simp only [Cd.ok, ee]; and_intros <;> first | omega | rfl | (simp <;> omega))
      refine fn_ret rfl rfl (.val ?_)
      rw [if_neg (by omega)]
  | cons b r =>
    have L1 := len_split g1
    try simp only [List.length_cons, List.length_nil] at L1
    have hcc : iLt i (lenA ep) = true := lt_t e_iLt e_lenA (by omega)
    refine go rfl hX 1 (by conv => lhs; cbv; simp only [hcc]; cbv) ?_ ?_
    · first | exact trivial | (simp only [Cd.ok, ee]; and_intros <;> first | omega | rfl | (simp <;> omega))
    refine on_pcall rfl rfl rfl (P35c d r b i g1 gi) (closed2 hclosed rfl) ?_
    generalize hbf : batchF e (lastE d) b = bf
    refine go rfl hX 0 (by conv => lhs; cbv) ?_ ?_
    · first | exact trivial | (simp only [Cd.ok, ee]; and_intros <;> first | omega | rfl | (simp <;> omega))
    refine on_cond rfl (fun h4 => ?_) (fun h4 => ?_)
    · simp [ee, decide_eq_true_eq, decide_eq_false_iff_not, Bool.and_eq_true, Bool.or_eq_true, Bool.not_eq_true', Bool.not_eq_false', Bool.and_eq_false_iff, Bool.or_eq_false_iff, bne_iff_ne, beq_iff_eq, beq_eq_false_iff_ne, bne_eq_false_iff_eq, ne_eq, Int.not_lt, Int.not_le, Decidable.not_not] at h4
      refine go rfl hX 0 (by conv => lhs; cbv) ?_ ?_
      · first | exact trivial | (simp only [Cd.ok, ee]; and_intros <;> first | omega | rfl | (simp <;> omega))
      refine loopP_ret ?_
      refine go rfl hX 0 (by conv => lhs; cbv) ?_ ?_
      · first | exact trivial | (simp only [Cd.ok, ee]; and_intros <;> first | omega | rfl | (simp <;> omega))
      refine fn_ret rfl rfl (.val ?_)
      have : batsF e none pend = bf := by rw [gb]; simp only [batsF, hbf, if_pos h4]
      rw [this, if_pos h4]
    · simp [ee, decide_eq_true_eq, decide_eq_false_iff_not, Bool.and_eq_true, Bool.or_eq_true, Bool.not_eq_true', Bool.not_eq_false', Bool.and_eq_false_iff, Bool.or_eq_false_iff, bne_iff_ne, beq_iff_eq, beq_eq_false_iff_ne, bne_eq_false_iff_eq, ne_eq, Int.not_lt, Int.not_le, Decidable.not_not] at h4
      refine go rfl hX 0 (by conv => lhs; cbv) ?_ ?_
      · first | exact trivial | (simp only [Cd.ok, ee]; and_intros <;> first | omega | rfl | (simp <;> omega))
      refine loopP_next (d ++ [b], r, iAdd .i64 i 1) ⟨by simp [g1], ?_, ?_⟩ (by simp) (ent_fw ⟨.refl _, .refl _, trivial⟩)
      · simp only [List.length_append, List.length_cons, List.length_nil]; exact inc_w e_iAdd gi (by omega)
      · rw [gb]; dsimp only; rw [lastE_snoc]; simp [batsF, hbf, h4]

def pendF : List Bat → List Chg
  | [] => []
  | b :: r => b.cs ++ pendF r
theorem pendF_append (a b : List Bat) : pendF (a ++ b) = pendF a ++ pendF b := by
  induction a with
  | nil => rfl
  | cons x r ih => simp only [List.cons_append, pendF, ih, List.append_assoc]
theorem pendF_len (a : List Bat) : (pendF a).length = sumL a := by
  induction a with
  | nil => rfl
  | cons x r ih => simp only [pendF, sumL, List.length_append, ih]

theorem P16 (s : Snk) (hs : Short s.pend) (hc : sumL s.pend < 500000000000) : PCall EE 16 [s.enc] (.isl 3 (mapE Chg.enc (pendF s.pend))) := by
  unfold Short at hs
  obtain ⟨e, com, pend⟩ := s
  dsimp only at hs hc ⊢
  refine words fun iLt iLe iEq iNe iAdd iSub iMul iQuo iRem iShr iNeg iCvt iMax iMin bNot bEq bNe bAnd bOr sEq sNe sLen sCat sCut sAt lenA lenN iOf natOf atA atN cutA partA dropA catA setA repA putA idxN addN subN minN lenCut hX e_iLt e_iLe e_iEq e_iNe e_iAdd e_iSub e_iMul e_iQuo e_iRem e_iShr e_iNeg e_iCvt e_iMax e_iMin e_bNot e_bEq e_bNe e_bAnd e_bOr e_sEq e_sNe e_sLen e_sCat e_sCut e_sAt e_lenA e_lenN e_iOf e_natOf e_atA e_atN e_cutA e_partA e_dropA e_catA e_setA e_repA e_putA e_idxN e_addN e_subN e_minN e_lenCut ee => ?_
  unfold Snk.enc
  dsimp only
  generalize hec : mapE Chg.enc com = ec
  generalize hep : mapE Bat.enc pend = ep
  have hpl : ep.length = pend.length := by rw [← hep, mapE_len]
  refine fn_body (fn := Try.f16) (n := 21) (ac := Tryc16) (rvs := [.t 2]) rfl (by decide) Tryp16 rfl rfl rfl ?_
  refine go rfl hX 0 (by conv => lhs; cbv) ?_ ?_
  · first | exact trivial | (simp only [Cd.ok, ee]; and_intros <;> first | omega | rfl | (simp <;> omega))
  refine on_loopP (ι := List Bat × List Bat × Int × List AV) (fun p => ([(4, int p.2.2.1), (1, .ptr 0 0), (3, .isl 3 p.2.2.2)], [.cells [int e, .isl 3 ec, .isl 2 ep]])) (fun p => pend = p.1 ++ p.2.1 ∧ p.2.2.1 = p.1.length ∧ p.2.2.2 = mapE Chg.enc (pendF p.1)) (fun p => p.2.1.length) ([], pend, 0, []) ⟨rfl, rfl, by simp [mapE_eq, pendF]⟩ (ent_fw ⟨.refl _, .refl _, .nilI 3, trivial⟩) ?_
  rintro ⟨d, r, i, es⟩ ⟨g1, gi, ge⟩
  dsimp only at g1 gi ge ⊢
  cases r with
  | nil =>
    have L1 := len_split g1
    try simp only [List.length_cons, List.length_nil] at L1
    have hcc : iLt i (lenA ep) = false := lt_f e_iLt e_lenA (by omega)
    refine go rfl hX 1 (by conv => lhs; cbv; simp only [hcc]; cbv) ?_ ?_
    · first | exact trivial | (simp only [Cd.ok, ee]; and_intros <;> first | omega | rfl | (simp <;> omega))
    refine loopP_exit ?_
    refine go rfl hX 0 (by conv => lhs; cbv) ?_ ?_
    · first | exact trivial | (simp only [Cd.ok, ee]; and_intros <;> first | omega | rfl | (simp <;> omega))
    rw [List.append_nil] at g1
    refine fn_ret rfl rfl (.none ?_)
    rw [ge, g1]
    exact .cl (closedC _)
  | cons b r =>
    have L1 := len_split g1
    try simp only [List.length_cons, List.length_nil] at L1
    have hsum : sumL pend = sumL d + (b.cs.length + sumL r) := by rw [g1, sumL_append]; rfl
    have hcc : iLt i (lenA ep) = true := lt_t e_iLt e_lenA (by omega)
    have ha := el_at e_atA hep g1 gi
    dsimp only [Bat.enc] at ha
    generalize hbs : mapE Chg.enc b.cs = ebs at ha
    refine go rfl hX 1 (by conv => lhs; cbv; simp only [hcc,ha]; cbv; simp only [hcc,ha]; cbv) ?_ ?_
    · first | exact trivial | (simp only [Cd.ok, ee]; and_intros <;> first | omega | rfl | (simp <;> omega))
    refine on_pcall (args := [.isl 3 (mapE Chg.enc (pendF d)), .isl 3 (mapE Chg.enc b.cs)]) rfl rfl (by rw [← ge, hbs]; rfl) (P40 (pendF d) b.cs (by rw [pendF_len]; omega)) (closed2 (closedC _) (closedC _)) ?_
    generalize hes' : mapE Chg.enc (pendF d ++ b.cs) = es'
    refine go rfl hX 0 (by conv => lhs; cbv) ?_ ?_
    · first | exact trivial | (simp only [Cd.ok, ee]; and_intros <;> first | omega | rfl | (simp <;> omega))
    refine loopP_next (d ++ [b], r, iAdd .i64 i 1, es') ⟨by simp [g1], ?_, ?_⟩ (by simp) (ent_fw ⟨.refl _, .refl _, .refl _, trivial⟩)
    · simp only [List.length_append, List.length_cons, List.length_nil]; exact inc_w e_iAdd gi (by omega)
    · rw [← hes']; dsimp only; rw [pendF_append]; simp [pendF]
end Go.Am
end
section
set_option linter.unusedVariables false
set_option linter.unusedSimpArgs false
set_option maxRecDepth 20000
namespace Go.Am
open Go.Proofs

theorem P18 (s : Snk) (hs : Short s.pend) (hc : countF s < 500000000000) : PCall EE 18 [s.enc] (.isl 3 (mapE Chg.enc (s.com ++ pendF s.pend))) := by
  have P16c := P16 s hs (by unfold countF at hc; omega)
  have P40c := P40 s.com (pendF s.pend) (by rw [pendF_len]; exact hc)
  have hcl := Snk.closed s
  have hcc : (AV.isl 3 (mapE Chg.enc s.com)).closed = true := closedC _
  have hcp : (AV.isl 3 (mapE Chg.enc (pendF s.pend))).closed = true := closedC _
  have hcr : (AV.isl 3 (mapE Chg.enc (s.com ++ pendF s.pend))).closed = true := closedC _
  obtain ⟨e, com, pend⟩ := s
  dsimp only at *
  refine words fun iLt iLe iEq iNe iAdd iSub iMul iQuo iRem iShr iNeg iCvt iMax iMin bNot bEq bNe bAnd bOr sEq sNe sLen sCat sCut sAt lenA lenN iOf natOf atA atN cutA partA dropA catA setA repA putA idxN addN subN minN lenCut hX e_iLt e_iLe e_iEq e_iNe e_iAdd e_iSub e_iMul e_iQuo e_iRem e_iShr e_iNeg e_iCvt e_iMax e_iMin e_bNot e_bEq e_bNe e_bAnd e_bOr e_sEq e_sNe e_sLen e_sCat e_sCut e_sAt e_lenA e_lenN e_iOf e_natOf e_atA e_atN e_cutA e_partA e_dropA e_catA e_setA e_repA e_putA e_idxN e_addN e_subN e_minN e_lenCut ee => ?_
  have henc : (⟨e, com, pend⟩ : Snk).enc = .agg [int e, .isl 3 (mapE Chg.enc com), .isl 2 (mapE Bat.enc pend)] := rfl
  simp only [henc] at P16c hcl ⊢
  generalize hec : mapE Chg.enc com = ec at P16c P40c hcl hcc ⊢
  generalize hep : mapE Bat.enc pend = ep at P16c hcl ⊢
  generalize hpp : mapE Chg.enc (pendF pend) = pp at P16c P40c hcp ⊢
  generalize hrr : mapE Chg.enc (com ++ pendF pend) = rr at P40c hcr ⊢
  refine fn_body (fn := Try.f18) (n := 8) (ac := Tryc18) (rvs := [.t 2]) rfl (by decide) Tryp18 rfl rfl rfl ?_
  refine go rfl hX 0 (by conv => lhs; cbv) ?_ ?_
  · first | exact trivial | (simp only [Cd.ok, ee]; and_intros <;> first | omega | rfl | (simp <;> omega))
  refine qd_draw rfl rfl ?_
  refine qd_go hX 0 (by conv => lhs; cbv) ?_ ?_
  · first | exact trivial | (simp only [Cd.ok, ee]; and_intros <;> first | omega | rfl | (simp <;> omega))
  refine qd_pcall rfl rfl rfl rfl P16c (closed1 hcl) ?_
  refine qd_go hX 0 (by conv => lhs; cbv) ?_ ?_
  · first | exact trivial | (simp only [Cd.ok, ee]; and_intros <;> first | omega | rfl | (simp <;> omega))
  refine qd_pcall rfl rfl rfl rfl P40c (closed2 hcc hcp) ?_
  refine qd_go hX 0 (by conv => lhs; cbv) ?_ ?_
  · first | exact trivial | (simp only [Cd.ok, ee]; and_intros <;> first | omega | rfl | (simp <;> omega))
  refine qd_nil ?_
  refine go rfl hX 0 (by conv => lhs; cbv) ?_ ?_
  · first | exact trivial | (simp only [Cd.ok, ee]; and_intros <;> first | omega | rfl | (simp <;> omega))
  exact fn_ret rfl rfl (.none (.cl hcr))

theorem P19 (a b : Snk) (ha : a.Fine) : PCall EE 19 [a.enc, b.enc] (.val (.bool (decide (a = b)))) := by
  have hsp := ha.pend
  have hbat := ha.bats
  have P14c := P14 a.com b.com ha.com
  clear ha
  unfold Short at hsp
  obtain ⟨e, com, pend⟩ := a
  obtain ⟨e', com', pend'⟩ := b
  dsimp only at *
  refine words fun iLt iLe iEq iNe iAdd iSub iMul iQuo iRem iShr iNeg iCvt iMax iMin bNot bEq bNe bAnd bOr sEq sNe sLen sCat sCut sAt lenA lenN iOf natOf atA atN cutA partA dropA catA setA repA putA idxN addN subN minN lenCut hX e_iLt e_iLe e_iEq e_iNe e_iAdd e_iSub e_iMul e_iQuo e_iRem e_iShr e_iNeg e_iCvt e_iMax e_iMin e_bNot e_bEq e_bNe e_bAnd e_bOr e_sEq e_sNe e_sLen e_sCat e_sCut e_sAt e_lenA e_lenN e_iOf e_natOf e_atA e_atN e_cutA e_partA e_dropA e_catA e_setA e_repA e_putA e_idxN e_addN e_subN e_minN e_lenCut ee => ?_
  unfold Snk.enc
  dsimp only
  have hcc : (AV.isl 3 (mapE Chg.enc com)).closed = true := closedC com
  have hcc' : (AV.isl 3 (mapE Chg.enc com')).closed = true := closedC com'
  generalize hec : mapE Chg.enc com = ec at P14c hcc ⊢
  generalize hec' : mapE Chg.enc com' = ec' at P14c hcc' ⊢
  generalize hep : mapE Bat.enc pend = ep
  generalize hep' : mapE Bat.enc pend' = ep'
  have hpl : ep.length = pend.length := by rw [← hep, mapE_len]
  have hpl' : ep'.length = pend'.length := by rw [← hep', mapE_len]
  generalize hdc : decide (com = com') = dc at P14c
  refine fn_body (fn := Try.f19) (n := 64) (ac := Tryc19) (rvs := [.t 4]) rfl (by decide) Tryp19 rfl rfl rfl ?_
  refine go rfl hX 0 (by conv => lhs; cbv) ?_ ?_
  · first | exact trivial | (simp only [Cd.ok, ee]; and_intros <;> first | omega | rfl | (simp <;> omega))
  refine on_guard rfl rfl (fun h1 => ?_) (fun h1 => ?_)
  · simp [ee, decide_eq_true_eq, decide_eq_false_iff_not, Bool.and_eq_true, Bool.or_eq_true, Bool.not_eq_true', Bool.not_eq_false', Bool.and_eq_false_iff, Bool.or_eq_false_iff, bne_iff_ne, beq_iff_eq, beq_eq_false_iff_ne, bne_eq_false_iff_eq, ne_eq, Int.not_lt, Int.not_le, Decidable.not_not, hpl, hpl'] at h1
    refine go rfl hX 5 (by conv => lhs; cbv) ?_ ?_
    · first | exact trivial | (simp only [Cd.ok, ee]; and_intros <;> first | omega | rfl | (simp <;> omega))
    refine on_gskip rfl rfl ?_
    refine go rfl hX 1 (by conv => lhs; cbv) ?_ ?_
    · first | exact trivial | (simp only [Cd.ok, ee]; and_intros <;> first | omega | rfl | (simp <;> omega))
    refine fn_ret rfl rfl (.val ?_)
    have : ¬ ((⟨e, com, pend⟩ : Snk) = ⟨e', com', pend'⟩) := by
      intro h
      simp only [Snk.mk.injEq] at h
      obtain ⟨rfl, rfl, rfl⟩ := h
      simp at h1
    simp [this]
  simp [ee, decide_eq_true_eq, decide_eq_false_iff_not, Bool.and_eq_true, Bool.or_eq_true, Bool.not_eq_true', Bool.not_eq_false', Bool.and_eq_false_iff, Bool.or_eq_false_iff, bne_iff_ne, beq_iff_eq, beq_eq_false_iff_ne, bne_eq_false_iff_eq, ne_eq, Int.not_lt, Int.not_le, Decidable.not_not, hpl, hpl'] at h1
  refine go rfl hX 4 (by conv => lhs; cbv) ?_ ?_
  · first | exact trivial | (simp only [Cd.ok, ee]; and_intros <;> first | omega | rfl | (simp <;> omega))
  refine on_gpcall rfl rfl rfl rfl P14c (closed2 hcc hcc') ?_
  refine go rfl hX 0 (by conv => lhs; cbv) ?_ ?_
  · first | exact trivial | (simp only [Cd.ok, ee]; and_intros <;> first | omega | rfl | (simp <;> omega))
  refine on_cond rfl (fun h2 => ?_) (fun h2 => ?_)
  · simp [ee, decide_eq_true_eq, decide_eq_false_iff_not, Bool.and_eq_true, Bool.or_eq_true, Bool.not_eq_true', Bool.not_eq_false', Bool.and_eq_false_iff, Bool.or_eq_false_iff, bne_iff_ne, beq_iff_eq, beq_eq_false_iff_ne, bne_eq_false_iff_eq, ne_eq, Int.not_lt, Int.not_le, Decidable.not_not] at h2
    subst h2
    refine go rfl hX 0 (by conv => lhs; cbv) ?_ ?_
    · first | exact trivial | (simp only [Cd.ok, ee]; and_intros <;> first | omega | rfl | (simp <;> omega))
    refine fn_ret rfl rfl (.val ?_)
    have : ¬ ((⟨e, com, pend⟩ : Snk) = ⟨e', com', pend'⟩) := by
      intro h
      simp only [Snk.mk.injEq] at h
      exact of_decide_eq_false hdc h.2.1
    simp [this]
  simp [ee, decide_eq_true_eq, decide_eq_false_iff_not, Bool.and_eq_true, Bool.or_eq_true, Bool.not_eq_true', Bool.not_eq_false', Bool.and_eq_false_iff, Bool.or_eq_false_iff, bne_iff_ne, beq_iff_eq, beq_eq_false_iff_ne, bne_eq_false_iff_eq, ne_eq, Int.not_lt, Int.not_le, Decidable.not_not] at h2
  subst h2
  have hcom := of_decide_eq_true hdc
  refine go rfl hX 0 (by conv => lhs; cbv) ?_ ?_
  · first | exact trivial | (simp only [Cd.ok, ee]; and_intros <;> first | omega | rfl | (simp <;> omega))
  refine on_loopP (ι := List Bat × List Bat × List Bat × List Bat × Int) (fun p => ([(5, int p.2.2.2.2), (2, .ptr 0 0), (3, .ptr 1 0)], [.cells [int e, .isl 3 ec, .isl 2 ep], .cells [int e', .isl 3 ec', .isl 2 ep']])) (fun p => pend = p.1 ++ p.2.1 ∧ pend' = p.2.2.1 ++ p.2.2.2.1 ∧ p.2.2.2.2 = p.1.length ∧ p.1 = p.2.2.1) (fun p => p.2.1.length) ([], pend, [], pend', 0) ⟨rfl, rfl, rfl, rfl⟩ (ent_fw ⟨.refl _, .refl _, .refl _, trivial⟩) ?_
  rintro ⟨dx, rx, dy, ry, i⟩ ⟨g1, g2, gi, g3⟩
  dsimp only at g1 g2 gi g3 ⊢
  subst g3
  cases rx with
  | nil =>
    have hry : ry = [] := by
      have := congrArg List.length g1; have h2 := congrArg List.length g2; simp at this h2; exact List.length_eq_zero_iff.1 (by omega)
    subst hry
    have L1 := len_split g1
    try simp only [List.length_cons, List.length_nil] at L1
    have hc : iLt i (lenA ep) = false := lt_f e_iLt e_lenA (by omega)
    refine go rfl hX 1 (by conv => lhs; cbv; simp only [hc]; cbv) ?_ ?_
    · first | exact trivial | (simp only [Cd.ok, ee]; and_intros <;> first | omega | rfl | (simp <;> omega))
    refine loopP_exit ?_
    refine go rfl hX 0 (by conv => lhs; cbv) ?_ ?_
    · first | exact trivial | (simp only [Cd.ok, ee]; and_intros <;> first | omega | rfl | (simp <;> omega))
    refine fn_ret rfl rfl (.val ?_)
    have : (⟨e, com, pend⟩ : Snk) = ⟨e', com', pend'⟩ := by rw [hcom, g1, g2, h1.1]
    simp [this]
  | cons x rx =>
    cases ry with
    | nil => exfalso; have := congrArg List.length g1; have h2 := congrArg List.length g2; simp at this h2; omega
    | cons y ry =>
      have L1 := len_split g1
      try simp only [List.length_cons, List.length_nil] at L1
      have L2 := len_split g2
      try simp only [List.length_cons, List.length_nil] at L2
      have hc : iLt i (lenA ep) = true := lt_t e_iLt e_lenA (by omega)
      have hx := el_at e_atA hep g1 gi
      have hy := el_at e_atA hep' g2 gi
      have P14x := P14 x.cs y.cs (hbat x (by rw [g1]; simp))
      obtain ⟨xe, xc⟩ := x
      obtain ⟨ye, yc⟩ := y
      dsimp only [Bat.enc] at hx hy P14x
      have hxc : (AV.isl 3 (mapE Chg.enc xc)).closed = true := closedC xc
      have hyc : (AV.isl 3 (mapE Chg.enc yc)).closed = true := closedC yc
      generalize hexc : mapE Chg.enc xc = exc at hx P14x hxc
      generalize heyc : mapE Chg.enc yc = eyc at hy P14x hyc
      generalize hdd : decide (xc = yc) = dd at P14x
      refine go rfl hX 1 (by conv => lhs; cbv; simp only [hc,hx,hy]; cbv; simp only [hc,hx,hy]; cbv; simp only [hc,hx,hy]; cbv) ?_ ?_
      · first | exact trivial | (simp only [Cd.ok, ee]; and_intros <;> first | omega | rfl | (simp <;> omega))
      refine qd_draw rfl rfl ?_
      refine qd_go hX 0 (by conv => lhs; cbv; simp only [hx,hy]; cbv; simp only [hx,hy]; cbv) ?_ ?_
      · first | exact trivial | (simp only [Cd.ok, ee]; and_intros <;> first | omega | rfl | (simp <;> omega))
      refine qd_split 48 rfl (fun h2 => ?_) (fun h2 => ?_)
      · simp [ee, decide_eq_true_eq, decide_eq_false_iff_not, Bool.and_eq_true, Bool.or_eq_true, Bool.not_eq_true', Bool.not_eq_false', Bool.and_eq_false_iff, Bool.or_eq_false_iff, bne_iff_ne, beq_iff_eq, beq_eq_false_iff_ne, bne_eq_false_iff_eq, ne_eq, Int.not_lt, Int.not_le, Decidable.not_not] at h2
        refine qd_go hX 13 (by conv => lhs; cbv) ?_ ?_
        · first | exact trivial | (simp only [Cd.ok, ee]; and_intros <;> first | omega | rfl | (simp <;> omega))
        refine QD.skip rfl ?_
        refine qd_pick rfl rfl rfl ?_
        refine qd_go hX 0 (by conv => lhs; cbv) ?_ ?_
        · first | exact trivial | (simp only [Cd.ok, ee]; and_intros <;> first | omega | rfl | (simp <;> omega))
        refine qd_nil ?_
        refine go rfl hX 1 (by conv => lhs; cbv) ?_ ?_
        · first | exact trivial | (simp only [Cd.ok, ee]; and_intros <;> first | omega | rfl | (simp <;> omega))
        refine loopP_ret ?_
        refine go rfl hX 0 (by conv => lhs; cbv) ?_ ?_
        · first | exact trivial | (simp only [Cd.ok, ee]; and_intros <;> first | omega | rfl | (simp <;> omega))
        refine fn_ret rfl rfl (.val ?_)
        have : ¬ ((⟨e, com, pend⟩ : Snk) = ⟨e', com', pend'⟩) := by
          intro h
          simp only [Snk.mk.injEq] at h
          have h := h.2.2
          rw [g1, g2] at h
          have := List.append_cancel_left h
          simp at this
          exact h2 this.1.1
        simp [this]
      · simp [ee, decide_eq_true_eq, decide_eq_false_iff_not, Bool.and_eq_true, Bool.or_eq_true, Bool.not_eq_true', Bool.not_eq_false', Bool.and_eq_false_iff, Bool.or_eq_false_iff, bne_iff_ne, beq_iff_eq, beq_eq_false_iff_ne, bne_eq_false_iff_eq, ne_eq, Int.not_lt, Int.not_le, Decidable.not_not] at h2
        refine qd_go hX 12 (by conv => lhs; cbv; simp only [hx,hy]; cbv; simp only [hx,hy]; cbv) ?_ ?_
        · first | exact trivial | (simp only [Cd.ok, ee]; and_intros <;> first | omega | rfl | (simp <;> omega))
        refine qd_pcall rfl rfl rfl rfl P14x (closed2 hxc hyc) ?_
        refine qd_go hX 0 (by conv => lhs; cbv) ?_ ?_
        · first | exact trivial | (simp only [Cd.ok, ee]; and_intros <;> first | omega | rfl | (simp <;> omega))
        refine qd_nil ?_
        refine go rfl hX 0 (by conv => lhs; cbv) ?_ ?_
        · first | exact trivial | (simp only [Cd.ok, ee]; and_intros <;> first | omega | rfl | (simp <;> omega))
        refine on_cond rfl (fun h3 => ?_) (fun h3 => ?_)
        · simp [ee, decide_eq_true_eq, decide_eq_false_iff_not, Bool.and_eq_true, Bool.or_eq_true, Bool.not_eq_true', Bool.not_eq_false', Bool.and_eq_false_iff, Bool.or_eq_false_iff, bne_iff_ne, beq_iff_eq, beq_eq_false_iff_ne, bne_eq_false_iff_eq, ne_eq, Int.not_lt, Int.not_le, Decidable.not_not] at h3
          subst h3
          refine go rfl hX 0 (by conv => lhs; cbv) ?_ ?_
          · first | exact trivial | (simp only [Cd.ok, ee]; and_intros <;> first | omega | rfl | (simp <;> omega))
          refine loopP_ret ?_
          refine go rfl hX 0 (by conv => lhs; cbv) ?_ ?_
          · first | exact trivial | (simp only [Cd.ok, ee]; and_intros <;> first | omega | rfl | (simp <;> omega))
          refine fn_ret rfl rfl (.val ?_)
          have : ¬ ((⟨e, com, pend⟩ : Snk) = ⟨e', com', pend'⟩) := by
            intro h
            simp only [Snk.mk.injEq] at h
            have h := h.2.2
            rw [g1, g2] at h
            have := List.append_cancel_left h
            simp at this
            exact of_decide_eq_false hdd this.1.2
          simp [this]
        · simp [ee, decide_eq_true_eq, decide_eq_false_iff_not, Bool.and_eq_true, Bool.or_eq_true, Bool.not_eq_true', Bool.not_eq_false', Bool.and_eq_false_iff, Bool.or_eq_false_iff, bne_iff_ne, beq_iff_eq, beq_eq_false_iff_ne, bne_eq_false_iff_eq, ne_eq, Int.not_lt, Int.not_le, Decidable.not_not] at h3
          subst h3
          refine go rfl hX 0 (by conv => lhs; cbv) ?_ ?_
          · first | exact trivial | (simp only [Cd.ok, ee]; and_intros <;> first | omega | rfl | (simp <;> omega))
          have hxy := of_decide_eq_true hdd
          refine loopP_next (dx ++ [⟨xe, xc⟩], rx, dx ++ [⟨xe, xc⟩], ry, iAdd .i64 i 1) ⟨by simp [g1], by simp [g2, h2, hxy], ?_, rfl⟩ (by simp) (ent_fw ⟨.refl _, .refl _, .refl _, trivial⟩)
          simp only [List.length_append, List.length_cons, List.length_nil]; exact inc_w e_iAdd gi (by omega)
end Go.Am
end
section
set_option linter.unusedVariables false
set_option linter.unusedSimpArgs false
set_option maxRecDepth 20000
namespace Go.Am
open Go.Proofs

def fewS (s : Snk) : Bool := decide (∀ b ∈ s.pend.take 300, fewC b.cs = true) && (decide (s.pend.length ≤ 300) && (fewC s.com || (decide (4096 < s.com.length) && decide (s.com.length ≤ 4098))))

theorem P10 (s : Snk) (hf : s.Fine) : PCall EE 10 [s.enc] (.val (.bool (fewS s))) := by
  have P21c := P21 s.com hf.com.1
  have hb21 := fun b (hb : b ∈ s.pend) => P21 b.cs (hf.bats b hb).1
  have hsp := hf.pend
  unfold Short at hsp
  clear hf
  obtain ⟨e, com, pend⟩ := s
  dsimp only at *
  refine words fun iLt iLe iEq iNe iAdd iSub iMul iQuo iRem iShr iNeg iCvt iMax iMin bNot bEq bNe bAnd bOr sEq sNe sLen sCat sCut sAt lenA lenN iOf natOf atA atN cutA partA dropA catA setA repA putA idxN addN subN minN lenCut hX e_iLt e_iLe e_iEq e_iNe e_iAdd e_iSub e_iMul e_iQuo e_iRem e_iShr e_iNeg e_iCvt e_iMax e_iMin e_bNot e_bEq e_bNe e_bAnd e_bOr e_sEq e_sNe e_sLen e_sCat e_sCut e_sAt e_lenA e_lenN e_iOf e_natOf e_atA e_atN e_cutA e_partA e_dropA e_catA e_setA e_repA e_putA e_idxN e_addN e_subN e_minN e_lenCut ee => ?_
  unfold Snk.enc
  dsimp only
  have hcc : (AV.isl 3 (mapE Chg.enc com)).closed = true := closedC com
  generalize hec : mapE Chg.enc com = ec at P21c hcc ⊢
  generalize hep : mapE Bat.enc pend = ep
  have hpl : ep.length = pend.length := by rw [← hep, mapE_len]
  have hcl : ec.length = com.length := by rw [← hec, mapE_len]
  generalize hfc : fewC com = fc at P21c
  refine fn_body (fn := Try.f10) (n := 44) (ac := Tryc10) (rvs := [.t 2]) rfl (by decide) Tryp10 rfl rfl rfl ?_
  refine go rfl hX 0 (by conv => lhs; cbv) ?_ ?_
  · first | exact trivial | (simp only [Cd.ok, ee]; and_intros <;> first | omega | rfl | (simp <;> omega))
  refine on_loopP (ι := List Bat × List Bat × Int) (fun p => ([(3, int p.2.2), (1, .ptr 0 0)], [.cells [int e, .isl 3 ec, .isl 2 ep]])) (fun p => pend = p.1 ++ p.2.1 ∧ p.2.2 = p.1.length ∧ p.1.length ≤ 300 ∧ ∀ b ∈ p.1, fewC b.cs = true) (fun p => p.2.1.length) ([], pend, 0) ⟨rfl, rfl, by simp, by simp⟩ (ent_fw ⟨.refl _, .refl _, trivial⟩) ?_
  rintro ⟨d, r, i⟩ ⟨g1, gi, g2, g3⟩
  dsimp only at g1 gi g2 g3 ⊢
  have L0 := len_split g1
  try simp only [List.length_cons, List.length_nil] at L0
  refine go rfl hX 0 (by conv => lhs; cbv) ?_ ?_
  · first | exact trivial | (simp only [Cd.ok, ee]; and_intros <;> first | omega | rfl | (simp <;> omega))
  refine on_cond rfl (fun h1 => ?_) (fun h1 => ?_)
  · simp [ee, decide_eq_true_eq, decide_eq_false_iff_not, Bool.and_eq_true, Bool.or_eq_true, Bool.not_eq_true', Bool.not_eq_false', Bool.and_eq_false_iff, Bool.or_eq_false_iff, bne_iff_ne, beq_iff_eq, beq_eq_false_iff_ne, bne_eq_false_iff_eq, ne_eq, Int.not_lt, Int.not_le, Decidable.not_not, hpl] at h1
    cases r with
    | nil => exfalso; simp at L0; omega
    | cons b r =>
      have L1 := len_split g1
      try simp only [List.length_cons, List.length_nil] at L1
      have ha := el_at e_atA hep g1 gi
      have P21b := hb21 b (by rw [g1]; simp)
      dsimp only [Bat.enc] at ha
      have hbc : (AV.isl 3 (mapE Chg.enc b.cs)).closed = true := closedC b.cs
      generalize hbs : mapE Chg.enc b.cs = ebs at ha P21b hbc
      generalize hfb : fewC b.cs = fb at P21b
      refine go rfl hX 0 (by conv => lhs; cbv; simp only [ha]; cbv) ?_ ?_
      · simp only [Cd.ok, ee]; omega
      refine on_pcall rfl rfl rfl P21b (closed1 hbc) ?_
      refine go rfl hX 0 (by conv => lhs; cbv) ?_ ?_
      · first | exact trivial | (simp only [Cd.ok, ee]; and_intros <;> first | omega | rfl | (simp <;> omega))
      refine on_cond rfl (fun h2 => ?_) (fun h2 => ?_)
      · simp [ee, decide_eq_true_eq, decide_eq_false_iff_not, Bool.and_eq_true, Bool.or_eq_true, Bool.not_eq_true', Bool.not_eq_false', Bool.and_eq_false_iff, Bool.or_eq_false_iff, bne_iff_ne, beq_iff_eq, beq_eq_false_iff_ne, bne_eq_false_iff_eq, ne_eq, Int.not_lt, Int.not_le, Decidable.not_not] at h2
        subst h2
        refine go rfl hX 0 (by conv => lhs; cbv) ?_ ?_
        · first | exact trivial | (simp only [Cd.ok, ee]; and_intros <;> first | omega | rfl | (simp <;> omega))
        refine loopP_ret ?_
        refine go rfl hX 0 (by conv => lhs; cbv) ?_ ?_
        · first | exact trivial | (simp only [Cd.ok, ee]; and_intros <;> first | omega | rfl | (simp <;> omega))
        refine fn_ret rfl rfl (.val ?_)
        have hm : b ∈ pend.take 300 := by
          rw [g1, List.take_append]
          refine List.mem_append.2 (.inr ?_)
          rw [show 300 - d.length = (299 - d.length) + 1 by omega]; simp
        have : fewS ⟨e, com, pend⟩ = false := by
          unfold fewS
          rw [Bool.and_eq_false_iff]
          exact .inl (decide_eq_false fun h => by have := h b hm; rw [hfb] at this; cases this)
        rw [this]
      · simp [ee, decide_eq_true_eq, decide_eq_false_iff_not, Bool.and_eq_true, Bool.or_eq_true, Bool.not_eq_true', Bool.not_eq_false', Bool.and_eq_false_iff, Bool.or_eq_false_iff, bne_iff_ne, beq_iff_eq, beq_eq_false_iff_ne, bne_eq_false_iff_eq, ne_eq, Int.not_lt, Int.not_le, Decidable.not_not] at h2
        subst h2
        refine go rfl hX 0 (by conv => lhs; cbv) ?_ ?_
        · first | exact trivial | (simp only [Cd.ok, ee]; and_intros <;> first | omega | rfl | (simp <;> omega))
        refine loopP_next (d ++ [b], r, iAdd .i64 i 1) ⟨by simp [g1], ?_, by simp; omega, ?_⟩ (by simp) (ent_fw ⟨.refl _, .refl _, trivial⟩)
        · simp only [List.length_append, List.length_cons, List.length_nil]; exact inc_w e_iAdd gi (by omega)
        · intro x hx
          rcases List.mem_append.1 hx with hx | hx
          · exact g3 x hx
          · simp at hx; subst hx; exact hfb
  · simp [ee, decide_eq_true_eq, decide_eq_false_iff_not, Bool.and_eq_true, Bool.or_eq_true, Bool.not_eq_true', Bool.not_eq_false', Bool.and_eq_false_iff, Bool.or_eq_false_iff, bne_iff_ne, beq_iff_eq, beq_eq_false_iff_ne, bne_eq_false_iff_eq, ne_eq, Int.not_lt, Int.not_le, Decidable.not_not, hpl] at h1
    refine go rfl hX 0 (by conv => lhs; cbv) ?_ ?_
    · first | exact trivial | (simp only [Cd.ok, ee]; and_intros <;> first | omega | rfl | (simp <;> omega))
    refine loopP_exit ?_
    have hfew : fewS ⟨e, com, pend⟩ = (decide (pend.length ≤ 300) && (fc || (decide (4096 < com.length) && decide (com.length ≤ 4098)))) := by
      unfold fewS
      dsimp only
      rw [hfc, Bool.and_eq_right_iff_imp, Bool.and_eq_true]
      rintro ⟨h, _⟩
      have h := of_decide_eq_true h
      refine decide_eq_true fun b hb => g3 b ?_
      cases r with
      | nil => rw [g1, List.append_nil] at hb; exact List.mem_of_mem_take hb
      | cons x r => exfalso; simp at L0; omega
    rw [hfew]
    refine go rfl hX 0 (by conv => lhs; cbv) ?_ ?_
    · first | exact trivial | (simp only [Cd.ok, ee]; and_intros <;> first | omega | rfl | (simp <;> omega))
    refine on_guard rfl rfl (fun h2 => ?_) (fun h2 => ?_)
    · simp [ee, decide_eq_true_eq, decide_eq_false_iff_not, Bool.and_eq_true, Bool.or_eq_true, Bool.not_eq_true', Bool.not_eq_false', Bool.and_eq_false_iff, Bool.or_eq_false_iff, bne_iff_ne, beq_iff_eq, beq_eq_false_iff_ne, bne_eq_false_iff_eq, ne_eq, Int.not_lt, Int.not_le, Decidable.not_not, hpl] at h2
      refine go rfl hX 2 (by conv => lhs; cbv) ?_ ?_
      · first | exact trivial | (simp only [Cd.ok, ee]; and_intros <;> first | omega | rfl | (simp <;> omega))
      refine on_gpcall rfl rfl rfl rfl P21c (closed1 hcc) ?_
      refine go rfl hX 1 (by conv => lhs; cbv) ?_ ?_
      · first | exact trivial | (simp only [Cd.ok, ee]; and_intros <;> first | omega | rfl | (simp <;> omega))
      refine on_guard rfl rfl (fun h3 => ?_) (fun h3 => ?_)
      · subst h3
        refine on_gskip rfl rfl ?_
        refine on_gskip rfl rfl ?_
        refine on_gskip rfl rfl ?_
        refine on_gskip rfl rfl ?_
        refine on_gskipv rfl rfl rfl rfl ?_
        refine on_gskipu rfl rfl ?_
        refine on_gskipu rfl rfl ?_
        refine on_gskipu rfl rfl ?_
        refine on_gskipu rfl rfl ?_
        refine on_gskip rfl rfl ?_
        refine go rfl hX 0 (by conv => lhs; cbv) ?_ ?_
        · first | exact trivial | (simp only [Cd.ok, ee]; and_intros <;> first | omega | rfl | (simp <;> omega))
        refine fn_ret rfl rfl (.val ?_)
        simp [ee, decide_eq_true_eq, decide_eq_false_iff_not, Bool.and_eq_true, Bool.or_eq_true, Bool.not_eq_true', Bool.not_eq_false', Bool.and_eq_false_iff, Bool.or_eq_false_iff, bne_iff_ne, beq_iff_eq, beq_eq_false_iff_ne, bne_eq_false_iff_eq, ne_eq, Int.not_lt, Int.not_le, Decidable.not_not]; omega
      · subst h3
        refine go rfl hX 5 (by conv => lhs; cbv) ?_ ?_
        · first | exact trivial | (simp only [Cd.ok, ee]; and_intros <;> first | omega | rfl | (simp <;> omega))
        refine on_guard rfl rfl (fun h4 => ?_) (fun h4 => ?_)
        · simp [ee, decide_eq_true_eq, decide_eq_false_iff_not, Bool.and_eq_true, Bool.or_eq_true, Bool.not_eq_true', Bool.not_eq_false', Bool.and_eq_false_iff, Bool.or_eq_false_iff, bne_iff_ne, beq_iff_eq, beq_eq_false_iff_ne, bne_eq_false_iff_eq, ne_eq, Int.not_lt, Int.not_le, Decidable.not_not, hcl] at h4
          refine go rfl hX 5 (by conv => lhs; cbv) ?_ ?_
          · first | exact trivial | (simp only [Cd.ok, ee]; and_intros <;> first | omega | rfl | (simp <;> omega))
          refine fn_ret rfl rfl (.val ?_)
          refine congrArg Value.bool ?_
          rw [Bool.eq_iff_iff]; simp [ee, decide_eq_true_eq, decide_eq_false_iff_not, Bool.and_eq_true, Bool.or_eq_true, Bool.not_eq_true', Bool.not_eq_false', Bool.and_eq_false_iff, Bool.or_eq_false_iff, bne_iff_ne, beq_iff_eq, beq_eq_false_iff_ne, bne_eq_false_iff_eq, ne_eq, Int.not_lt, Int.not_le, Decidable.not_not, hcl]; omega
        · simp [ee, decide_eq_true_eq, decide_eq_false_iff_not, Bool.and_eq_true, Bool.or_eq_true, Bool.not_eq_true', Bool.not_eq_false', Bool.and_eq_false_iff, Bool.or_eq_false_iff, bne_iff_ne, beq_iff_eq, beq_eq_false_iff_ne, bne_eq_false_iff_eq, ne_eq, Int.not_lt, Int.not_le, Decidable.not_not, hcl] at h4
          refine go rfl hX 5 (by conv => lhs; cbv) ?_ ?_
          · first | exact trivial | (simp only [Cd.ok, ee]; and_intros <;> first | omega | rfl | (simp <;> omega))
          refine fn_ret rfl rfl (.val ?_)
          refine congrArg Value.bool ?_
          rw [Bool.eq_iff_iff]; simp [ee, decide_eq_true_eq, decide_eq_false_iff_not, Bool.and_eq_true, Bool.or_eq_true, Bool.not_eq_true', Bool.not_eq_false', Bool.and_eq_false_iff, Bool.or_eq_false_iff, bne_iff_ne, beq_iff_eq, beq_eq_false_iff_ne, bne_eq_false_iff_eq, ne_eq, Int.not_lt, Int.not_le, Decidable.not_not, hcl]; omega
    · simp [ee, decide_eq_true_eq, decide_eq_false_iff_not, Bool.and_eq_true, Bool.or_eq_true, Bool.not_eq_true', Bool.not_eq_false', Bool.and_eq_false_iff, Bool.or_eq_false_iff, bne_iff_ne, beq_iff_eq, beq_eq_false_iff_ne, bne_eq_false_iff_eq, ne_eq, Int.not_lt, Int.not_le, Decidable.not_not, hpl] at h2
      refine on_gskip rfl rfl ?_
      refine on_gskip rfl rfl ?_
      refine on_gskip rfl rfl ?_
      refine on_gskipv rfl rfl rfl rfl ?_
      refine on_gskipu rfl rfl ?_
      refine on_gskipu rfl rfl ?_
      refine on_gskipu rfl rfl ?_
      refine on_gskipu rfl rfl ?_
      refine on_gskipuv rfl rfl rfl rfl ?_
      refine on_gskipu rfl rfl ?_
      refine on_gskipu rfl rfl ?_
      refine on_gskipu rfl rfl ?_
      refine on_gskipu rfl rfl ?_
      refine on_gskipu rfl rfl ?_
      refine on_gskip rfl rfl ?_
      refine go rfl hX 0 (by conv => lhs; cbv) ?_ ?_
      · first | exact trivial | (simp only [Cd.ok, ee]; and_intros <;> first | omega | rfl | (simp <;> omega))
      refine fn_ret rfl rfl (.val ?_)
      simp; omega
end Go.Am
end
section
set_option linter.unusedVariables false
set_option linter.unusedSimpArgs false
set_option maxRecDepth 20000
namespace Go.Am
open Go.Proofs

def withF (e : Int) (cs : List Chg) : Bool → List Bat → List Bat
  | done, [] => if done then [] else [⟨e, cs⟩]
  | done, b :: r => (if !done && decide (e < b.epoch) then [⟨e, cs⟩] else []) ++ (if b.epoch = e then ⟨b.epoch, b.cs ++ cs⟩ else b) :: withF e cs (done || decide (e < b.epoch) || decide (b.epoch = e)) r

theorem withF_len (e : Int) (cs : List Chg) : ∀ (l : List Bat) (d : Bool), (withF e cs d l).length ≤ 2 * l.length + 1
  | [], d => by unfold withF; split <;> simp
  | b :: r, d => by
    have := withF_len e cs r (d || decide (e < b.epoch) || decide (b.epoch = e))
    unfold withF
    simp only [List.length_append, List.length_cons]
    split <;> simp <;> omega

theorem P45 (l : List Bat) (e : Int) (cs : List Chg) (hl : l.length < 10000000000) (hb : ∀ b ∈ l, b.cs.length + cs.length < 500000000000) :
    PCall EE 45 [.isl 2 (mapE Bat.enc l), int e, .isl 3 (mapE Chg.enc cs)] (.isl 2 (mapE Bat.enc (withF e cs false l))) := by
  refine words fun iLt iLe iEq iNe iAdd iSub iMul iQuo iRem iShr iNeg iCvt iMax iMin bNot bEq bNe bAnd bOr sEq sNe sLen sCat sCut sAt lenA lenN iOf natOf atA atN cutA partA dropA catA setA repA putA idxN addN subN minN lenCut hX e_iLt e_iLe e_iEq e_iNe e_iAdd e_iSub e_iMul e_iQuo e_iRem e_iShr e_iNeg e_iCvt e_iMax e_iMin e_bNot e_bEq e_bNe e_bAnd e_bOr e_sEq e_sNe e_sLen e_sCat e_sCut e_sAt e_lenA e_lenN e_iOf e_natOf e_atA e_atN e_cutA e_partA e_dropA e_catA e_setA e_repA e_putA e_idxN e_addN e_subN e_minN e_lenCut ee => ?_
  have hcl : (AV.isl 2 (mapE Bat.enc l)).closed = true := closedB l
  have hcc : (AV.isl 3 (mapE Chg.enc cs)).closed = true := closedC cs
  have P40c := fun (b : Bat) h => P40 b.cs cs (hb b h)
  have hcj := fun (b : Bat) => closedC (b.cs ++ cs)
  have hnew : Bat.enc ⟨e, cs⟩ = .agg [int e, .isl 3 (mapE Chg.enc cs)] := rfl
  have hjoin : ∀ b : Bat, Bat.enc ⟨b.epoch, b.cs ++ cs⟩ = .agg [int b.epoch, .isl 3 (mapE Chg.enc (b.cs ++ cs))] := fun b => rfl
  generalize hel : mapE Bat.enc l = el at hcl ⊢
  generalize hec : mapE Chg.enc cs = ec at hcc P40c hnew ⊢
  have hll : el.length = l.length := by rw [← hel, mapE_len]
  refine fn_body (fn := Try.f45) (n := 60) (ac := Tryc45) (rvs := [.t 6]) rfl (by decide) Tryp45 rfl rfl rfl ?_
  refine go rfl hX 0 (by conv => lhs; cbv) ?_ ?_
  · first | exact trivial | (simp only [Cd.ok, ee]; and_intros <;> first | omega | rfl | (simp <;> omega))
  refine on_loopP (ι := List Bat × List Bat × Int × Nat × List AV × Bool × List Bat) (fun p => ([(9, int p.2.2.1), (0, .isl 2 el), (1, int e), (2, .isl 3 ec), (8, .val (.bool p.2.2.2.2.2.1)), (7, .sl 0 2 0 p.2.2.2.1)], [.arr 2 p.2.2.2.2.1]))
    (fun p => l = p.1 ++ p.2.1 ∧ p.2.2.1 = p.1.length ∧ p.2.2.2.1 = p.2.2.2.2.2.2.length ∧ p.2.2.2.2.1 = mapE Bat.enc p.2.2.2.2.2.2 ∧ withF e cs false l = p.2.2.2.2.2.2 ++ withF e cs p.2.2.2.2.2.1 p.2.1 ∧ p.2.2.2.2.2.2.length ≤ 2 * p.1.length) (fun p => p.2.1.length) ([], l, 0, 0, [], false, []) ⟨rfl, rfl, rfl, by simp [mapE_eq], rfl, by simp⟩
    (ent_sub [] [none] trivial ⟨.none 2 rfl, trivial⟩ ⟨.refl _, .cl hcl, .refl _, .cl hcc, .refl _, .nilS 0 2 0 (Nat.zero_lt_succ _), trivial⟩) ?_
  rintro ⟨d, r, i, n, es, dn, out⟩ ⟨g1, gi, gn, ge, gw, gl⟩
  dsimp only at g1 gi gn ge gw gl ⊢
  have hesl : es.length = out.length := by rw [ge, mapE_len]
  cases r with
  | nil =>
    have L1 := len_split g1
    try simp only [List.length_cons, List.length_nil] at L1
    have hcd : iLt i (lenA el) = false := lt_f e_iLt e_lenA (by omega)
    refine go rfl hX 1 (by conv => lhs; cbv; simp only [hcd]; cbv) ?_ ?_
    · first | exact trivial | (simp only [Cd.ok, ee]; and_intros <;> first | omega | rfl | (simp <;> omega))
    refine loopP_exit ?_
    refine go rfl hX 0 (by conv => lhs; cbv) ?_ ?_
    · first | exact trivial | (simp only [Cd.ok, ee]; and_intros <;> first | omega | rfl | (simp <;> omega))
    refine on_cond rfl (fun h1 => ?_) (fun h1 => ?_)
    · simp [ee, decide_eq_true_eq, decide_eq_false_iff_not, Bool.and_eq_true, Bool.or_eq_true, Bool.not_eq_true', Bool.not_eq_false', Bool.and_eq_false_iff, Bool.or_eq_false_iff, bne_iff_ne, beq_iff_eq, beq_eq_false_iff_ne, bne_eq_false_iff_eq, ne_eq, Int.not_lt, Int.not_le, Decidable.not_not] at h1
      subst h1
      refine go rfl hX 0 (by conv => lhs; cbv) ?_ ?_
      · first | exact trivial | (simp only [Cd.ok, ee]; and_intros <;> first | omega | rfl | (simp <;> omega))
      refine fn_ret rfl rfl ?_
      rw [show withF e cs false l = out ++ [⟨e, cs⟩] by rw [gw]; rfl]
      simp only [ee]
      refine ⟨[.gone, .gone, .isl 2 (mapE Bat.enc (out ++ [⟨e, cs⟩]))], ⟨trivial, trivial, ⟨_, rfl, ?_⟩, trivial⟩, .of (sub_whole rfl ?_)⟩
      · have hX : es.drop 0 ++ List.take 1 (List.drop 0 [AV.agg [.val (.int .i64 e), .isl 3 ec]]) = mapE Bat.enc (out ++ [⟨e, cs⟩]) := by
          rw [List.drop_zero, ge, ← mapE_snoc, hnew]; rfl
        rw [hX]
        exact (subL_closed _ (closed_mapE Bat.closed _)).symm
      · rw [mapE_len, List.length_append, gn]; rfl
    · simp [ee, decide_eq_true_eq, decide_eq_false_iff_not, Bool.and_eq_true, Bool.or_eq_true, Bool.not_eq_true', Bool.not_eq_false', Bool.and_eq_false_iff, Bool.or_eq_false_iff, bne_iff_ne, beq_iff_eq, beq_eq_false_iff_ne, bne_eq_false_iff_eq, ne_eq, Int.not_lt, Int.not_le, Decidable.not_not] at h1
      subst h1
      refine go rfl hX 0 (by conv => lhs; cbv) ?_ ?_
      · first | exact trivial | (simp only [Cd.ok, ee]; and_intros <;> first | omega | rfl | (simp <;> omega))
      refine fn_ret rfl rfl ?_
      rw [show withF e cs false l = out by rw [gw]; simp [withF]]
      exact fz_whole (by omega) (closed_mapE Bat.closed _) ge
  | cons b r =>
    obtain ⟨be, bcs⟩ := b
    have L1 := len_split g1
    try simp only [List.length_cons, List.length_nil] at L1
    have hcd : iLt i (lenA el) = true := lt_t e_iLt e_lenA (by omega)
    have ha := el_at e_atA hel g1 gi
    have hbm : (⟨be, bcs⟩ : Bat) ∈ l := by rw [g1]; simp
    have P40b := P40c ⟨be, bcs⟩ hbm
    have hcb : (AV.isl 3 (mapE Chg.enc bcs)).closed = true := closedC bcs
    have hcjb := hcj ⟨be, bcs⟩
    have hbe := hjoin ⟨be, bcs⟩
    have hbenc : Bat.enc ⟨be, bcs⟩ = .agg [int be, .isl 3 (mapE Chg.enc bcs)] := rfl
    rw [hbenc] at ha
    dsimp only at P40b hcjb hbe
    generalize hbs : mapE Chg.enc bcs = ebs at ha P40b hcb hbenc
    generalize hjs : mapE Chg.enc (bcs ++ cs) = js at P40b hcjb hbe
    have hstep : withF e cs false l = out ++ ((if !dn && decide (e < be) then [⟨e, cs⟩] else []) ++ (if be = e then ⟨be, bcs ++ cs⟩ else ⟨be, bcs⟩) :: withF e cs (dn || decide (e < be) || decide (be = e)) r) := by rw [gw]; rfl
    refine go rfl hX 1 (by conv => lhs; cbv; simp only [hcd,ha]; cbv; simp only [hcd,ha]; cbv) ?_ ?_
    · first | exact trivial | (simp only [Cd.ok, ee]; and_intros <;> first | omega | rfl | (simp <;> omega))
    refine on_cond rfl (fun h1 => ?_) (fun h1 => ?_)
    · simp [ee, decide_eq_true_eq, decide_eq_false_iff_not, Bool.and_eq_true, Bool.or_eq_true, Bool.not_eq_true', Bool.not_eq_false', Bool.and_eq_false_iff, Bool.or_eq_false_iff, bne_iff_ne, beq_iff_eq, beq_eq_false_iff_ne, bne_eq_false_iff_eq, ne_eq, Int.not_lt, Int.not_le, Decidable.not_not] at h1
      refine go rfl hX 0 (by conv => lhs; cbv; simp only [ha]; cbv) ?_ ?_
      · first | exact trivial | (simp only [Cd.ok, ee]; and_intros <;> first | omega | rfl | (simp <;> omega))
      refine on_cond rfl (fun h2 => ?_) (fun h2 => ?_)
      · exfalso
        simp [ee, decide_eq_true_eq, decide_eq_false_iff_not, Bool.and_eq_true, Bool.or_eq_true, Bool.not_eq_true', Bool.not_eq_false', Bool.and_eq_false_iff, Bool.or_eq_false_iff, bne_iff_ne, beq_iff_eq, beq_eq_false_iff_ne, bne_eq_false_iff_eq, ne_eq, Int.not_lt, Int.not_le, Decidable.not_not] at h2
        omega
      · simp [ee, decide_eq_true_eq, decide_eq_false_iff_not, Bool.and_eq_true, Bool.or_eq_true, Bool.not_eq_true', Bool.not_eq_false', Bool.and_eq_false_iff, Bool.or_eq_false_iff, bne_iff_ne, beq_iff_eq, beq_eq_false_iff_ne, bne_eq_false_iff_eq, ne_eq, Int.not_lt, Int.not_le, Decidable.not_not] at h2
        refine go rfl hX 0 (by conv => lhs; cbv) ?_ ?_
        · first | exact trivial | (simp only [Cd.ok, ee]; and_intros <;> first | omega | rfl | (simp <;> omega))
        obtain ⟨hd1, hd2⟩ := h1
        subst hd1
        refine loopP_next (d ++ [⟨be, bcs⟩], r, iAdd .i64 i 1, n + 1 + 1, mapE Bat.enc (out ++ [⟨e, cs⟩] ++ [⟨be, bcs⟩]), true, out ++ [⟨e, cs⟩] ++ [⟨be, bcs⟩]) ⟨by simp [g1], ?_, by simp [gn], rfl, ?_, by simp; omega⟩ (by simp) (ent_sub [.gone, .gone, .gone, .gone, .gone, .to 0] [some 5] ⟨trivial, trivial, trivial, trivial, trivial, ⟨Nat.zero_lt_succ _, rfl⟩, trivial⟩ ⟨osrc_arr rfl rfl rfl ?_ (closed_mapE Bat.closed _), trivial⟩ ⟨.refl _, .cl hcl, .refl _, .cl hcc, .refl _, .of ?_, trivial⟩)
        · simp only [List.length_append, List.length_cons, List.length_nil]; exact inc_w e_iAdd gi (by omega)
        · dsimp only; rw [hstep]; simp [hd2, h2]
        · simp only [ee]
          show (es.drop 0 ++ [AV.agg [.val (.int .i64 e), .isl 3 ec]]).drop 0 ++ [AV.agg [.val (.int .i64 be), .isl 3 ebs]] = _
          simp only [List.drop_zero]
          rw [ge, ← hnew, ← hbenc, mapE_snoc, mapE_snoc]
        · simp only [ee]; rfl
    · simp [ee, decide_eq_true_eq, decide_eq_false_iff_not, Bool.and_eq_true, Bool.or_eq_true, Bool.not_eq_true', Bool.not_eq_false', Bool.and_eq_false_iff, Bool.or_eq_false_iff, bne_iff_ne, beq_iff_eq, beq_eq_false_iff_ne, bne_eq_false_iff_eq, ne_eq, Int.not_lt, Int.not_le, Decidable.not_not] at h1
      have hgt : ¬ (dn = false ∧ e < be) := fun h => absurd (h1 h.1) (by omega)
      refine go rfl hX 0 (by conv => lhs; cbv; simp only [ha]; cbv) ?_ ?_
      · first | exact trivial | (simp only [Cd.ok, ee]; and_intros <;> first | omega | rfl | (simp <;> omega))
      refine on_cond rfl (fun h2 => ?_) (fun h2 => ?_)
      · simp [ee, decide_eq_true_eq, decide_eq_false_iff_not, Bool.and_eq_true, Bool.or_eq_true, Bool.not_eq_true', Bool.not_eq_false', Bool.and_eq_false_iff, Bool.or_eq_false_iff, bne_iff_ne, beq_iff_eq, beq_eq_false_iff_ne, bne_eq_false_iff_eq, ne_eq, Int.not_lt, Int.not_le, Decidable.not_not] at h2
        refine go rfl hX 0 (by conv => lhs; cbv) ?_ ?_
        · first | exact trivial | (simp only [Cd.ok, ee]; and_intros <;> first | omega | rfl | (simp <;> omega))
        refine on_pcall rfl rfl rfl P40b (closed2 hcb hcc) ?_
        refine go rfl hX 0 (by conv => lhs; cbv) ?_ ?_
        · first | exact trivial | (simp only [Cd.ok, ee]; and_intros <;> first | omega | rfl | (simp <;> omega))
        refine loopP_next (d ++ [⟨be, bcs⟩], r, iAdd .i64 i 1, n + 1, mapE Bat.enc (out ++ [⟨be, bcs ++ cs⟩]), true, out ++ [⟨be, bcs ++ cs⟩]) ⟨by simp [g1], ?_, by simp [gn], rfl, ?_, by simp; omega⟩ (by simp) (ent_sub [.gone, .gone, .gone, .to 0] [some 3] ⟨trivial, trivial, trivial, ⟨Nat.zero_lt_succ _, rfl⟩, trivial⟩ ⟨osrc_arr rfl rfl rfl ?_ (closed_mapE Bat.closed _), trivial⟩ ⟨.refl _, .cl hcl, .refl _, .cl hcc, .refl _, .of ?_, trivial⟩)
        · simp only [List.length_append, List.length_cons, List.length_nil]; exact inc_w e_iAdd gi (by omega)
        · dsimp only; rw [hstep]; subst h2
          simp
        · simp only [ee]
          show es.drop 0 ++ [AV.agg [.val (.int .i64 be), .isl 3 js]] = _
          simp only [List.drop_zero]
          rw [ge, ← hbe, mapE_snoc]
        · simp only [ee]; rfl
      · simp [ee, decide_eq_true_eq, decide_eq_false_iff_not, Bool.and_eq_true, Bool.or_eq_true, Bool.not_eq_true', Bool.not_eq_false', Bool.and_eq_false_iff, Bool.or_eq_false_iff, bne_iff_ne, beq_iff_eq, beq_eq_false_iff_ne, bne_eq_false_iff_eq, ne_eq, Int.not_lt, Int.not_le, Decidable.not_not] at h2
        refine go rfl hX 0 (by conv => lhs; cbv) ?_ ?_
        · first | exact trivial | (simp only [Cd.ok, ee]; and_intros <;> first | omega | rfl | (simp <;> omega))
        refine loopP_next (d ++ [⟨be, bcs⟩], r, iAdd .i64 i 1, n + 1, mapE Bat.enc (out ++ [⟨be, bcs⟩]), dn, out ++ [⟨be, bcs⟩]) ⟨by simp [g1], ?_, by simp [gn], rfl, ?_, by simp; omega⟩ (by simp) (ent_sub [.gone, .gone, .gone, .to 0] [some 3] ⟨trivial, trivial, trivial, ⟨Nat.zero_lt_succ _, rfl⟩, trivial⟩ ⟨osrc_arr rfl rfl rfl ?_ (closed_mapE Bat.closed _), trivial⟩ ⟨.refl _, .cl hcl, .refl _, .cl hcc, .refl _, .of ?_, trivial⟩)
        · simp only [List.length_append, List.length_cons, List.length_nil]; exact inc_w e_iAdd gi (by omega)
        · dsimp only; rw [hstep]; have h3 : (!dn && decide (e < be)) = false := by rw [Bool.and_eq_false_iff]; cases dn <;> simp_all
          have h4 : (dn || decide (e < be) || decide (be = e)) = dn := by cases dn <;> simp_all
          rw [h3, h4]; simp [h2]
        · simp only [ee]
          show es.drop 0 ++ [AV.agg [.val (.int .i64 be), .isl 3 ebs]] = _
          simp only [List.drop_zero]
          rw [ge, ← hbenc, mapE_snoc]
        · simp only [ee]; rfl
end Go.Am
end
section
set_option linter.unusedVariables false
set_option linter.unusedSimpArgs false
set_option maxRecDepth 20000
namespace Go.Am
open Go.Proofs

def Snk0 : Snk := ⟨0, [], []⟩
theorem mapE_nil {α : Type} (e : α → AV) : mapE e [] = [] := by rw [mapE_eq]; rfl
/-- the zero sink and an error -/
theorem fz0 {H : AHeap} {k : Int} : Fz H (.tup [.agg [int 0, .val (.slice none 0 0), .val (.slice none 0 0)], int k]) (.tup [Snk0.enc, int k]) := by
  refine .none ?_
  show Wk 0 (.tup [.agg [int 0, .val (.slice none 0 0), .val (.slice none 0 0)], int k]) _
  unfold Snk0 Snk.enc
  dsimp only
  rw [mapE_nil, mapE_nil]
  exact .tup' ⟨.agg' ⟨.refl _, .nilI 3, .nilI 2, trivial⟩, .refl _, trivial⟩

theorem check_ok {s : Snk} (h : checkF s = 0) : 0 ≤ s.epoch ∧ s.epoch ≤ 1099511627776 ∧ s.pend.length ≤ 256 ∧ changesF s.com = 0 ∧ batsF s.epoch none s.pend = 0 ∧ countF s ≤ 4096 := by
  unfold checkF at h
  split at h
  · omega
  split at h
  · omega
  split at h
  · rename_i h3; exact absurd h h3
  split at h
  · rename_i h3; exact absurd h h3
  split at h
  · omega
  rename_i h1 h2 h3 h4 h5
  exact ⟨by omega, by omega, by omega, Decidable.not_not.1 h3, Decidable.not_not.1 h4, by omega⟩

noncomputable def addF (s : Snk) (e : Int) (cs : List Chg) : Snk × Int :=
  if checkF s ≠ 0 then (Snk0, checkF s) else if e ≤ s.epoch ∨ 1099511627776 < e then (Snk0, 29) else if changesF cs ≠ 0 then (Snk0, changesF cs) else if cs = [] then (s, 0)
  else if 256 < (withF e cs false s.pend).length then (Snk0, 5) else if 4096 < countF ⟨s.epoch, s.com, withF e cs false s.pend⟩ then (Snk0, 27) else (⟨s.epoch, s.com, withF e cs false s.pend⟩, 0)

theorem sumL_with (e : Int) (cs : List Chg) : ∀ (l : List Bat) (d : Bool), sumL (withF e cs d l) ≤ sumL l + (l.length + 1) * (2 * cs.length)
  | [], d => by unfold withF; split <;> simp [sumL]; omega
  | b :: r, d => by
    have := sumL_with e cs r (d || decide (e < b.epoch) || decide (b.epoch = e))
    unfold withF
    rw [sumL_append]
    simp only [sumL, List.length_cons]
    have h2 : (r.length + 1 + 1) * (2 * cs.length) = (r.length + 1) * (2 * cs.length) + 2 * cs.length := by rw [Nat.add_mul (r.length + 1)]; omega
    split <;> split <;> simp [sumL] <;> omega

theorem P23 (s : Snk) (e : Int) (cs : List Chg) (hf : s.Fine) (hc : countF s < 1152921504606846976) (hcs : cs.length < 100000000000) : PCall EE 23 [s.enc, int e, .isl 3 (mapE Chg.enc cs)] (.tup [(addF s e cs).1.enc, int (addF s e cs).2]) := by
  have P13c := P13 s hf hc
  have P34c := P34 cs (by omega)
  have P45c := fun h : checkF s = 0 => P45 s.pend e cs (by have := check_ok h; omega) (fun b hb => by
    have := (check_ok h).2.2.2.2.2
    have hb2 : b.cs.length ≤ sumL s.pend := by
      obtain ⟨d, r, hd⟩ := List.append_of_mem hb
      rw [hd, sumL_append]; simp [sumL]; omega
    unfold countF at this
    omega)
  have P36c := fun h : checkF s = 0 => P36 ⟨s.epoch, s.com, withF e cs false s.pend⟩ (by
    have := withF_len e cs s.pend false; have := (check_ok h).2.2.1; unfold Short; dsimp only; omega) (by
    have h1 := sumL_with e cs s.pend false
    have h2 := (check_ok h).2.2.1
    have h3 := (check_ok h).2.2.2.2.2
    have h4 : (s.pend.length + 1) * (2 * cs.length) ≤ 257 * (2 * cs.length) := Nat.mul_le_mul_right _ (by omega)
    unfold countF at h3 ⊢; dsimp only; omega)
  have hcl := Snk.closed s
  have hcc := closedC cs
  have hcp := closedB s.pend
  have hcom := closedC s.com
  have hcw := closedB (withF e cs false s.pend)
  have hadd : addF s e cs = addF s e cs := rfl
  unfold addF at hadd ⊢
  clear hadd
  generalize hck : checkF s = ck at P13c P45c P36c ⊢
  generalize hch : changesF cs = ch at P34c ⊢
  generalize hct : countF ⟨s.epoch, s.com, withF e cs false s.pend⟩ = ct at P36c ⊢
  have hwl : (mapE Bat.enc (withF e cs false s.pend)).length = (withF e cs false s.pend).length := mapE_len _ _
  have henc : s.enc = .agg [int s.epoch, .isl 3 (mapE Chg.enc s.com), .isl 2 (mapE Bat.enc s.pend)] := rfl
  have henc2 : (⟨s.epoch, s.com, withF e cs false s.pend⟩ : Snk).enc = .agg [int s.epoch, .isl 3 (mapE Chg.enc s.com), .isl 2 (mapE Bat.enc (withF e cs false s.pend))] := rfl
  have hcl2 := Snk.closed ⟨s.epoch, s.com, withF e cs false s.pend⟩
  rw [henc2] at hcl2
  simp only [henc2] at P36c
  generalize hw : withF e cs false s.pend = wl at *
  refine words fun iLt iLe iEq iNe iAdd iSub iMul iQuo iRem iShr iNeg iCvt iMax iMin bNot bEq bNe bAnd bOr sEq sNe sLen sCat sCut sAt lenA lenN iOf natOf atA atN cutA partA dropA catA setA repA putA idxN addN subN minN lenCut hX e_iLt e_iLe e_iEq e_iNe e_iAdd e_iSub e_iMul e_iQuo e_iRem e_iShr e_iNeg e_iCvt e_iMax e_iMin e_bNot e_bEq e_bNe e_bAnd e_bOr e_sEq e_sNe e_sLen e_sCat e_sCut e_sAt e_lenA e_lenN e_iOf e_natOf e_atA e_atN e_cutA e_partA e_dropA e_catA e_setA e_repA e_putA e_idxN e_addN e_subN e_minN e_lenCut ee => ?_
  rw [henc] at P13c hcl ⊢
  generalize hec : mapE Chg.enc s.com = ec at *
  generalize hep : mapE Bat.enc s.pend = ep at *
  generalize hcsE : mapE Chg.enc cs = ecs at *
  generalize hewl : mapE Bat.enc wl = ewl at *
  have hcsl : ecs.length = cs.length := by rw [← hcsE, mapE_len]
  have hse : s.enc = .agg [int s.epoch, .isl 3 ec, .isl 2 ep] := henc
  generalize hsp : s.epoch = se at *
  refine fn_body (fn := Try.f23) (n := 53) (ac := Tryc23) (rvs := [.cell 6 3 true, .t 7]) rfl (by decide) Tryp23 rfl rfl rfl ?_
  refine go rfl hX 0 (by conv => lhs; cbv) ?_ ?_
  · first | exact trivial | (simp only [Cd.ok, ee]; and_intros <;> first | omega | rfl | (simp <;> omega))
  refine on_pcall rfl rfl rfl P13c (closed1 hcl) ?_
  refine go rfl hX 0 (by conv => lhs; cbv) ?_ ?_
  · first | exact trivial | (simp only [Cd.ok, ee]; and_intros <;> first | omega | rfl | (simp <;> omega))
  refine on_cond rfl (fun h1 => ?_) (fun h1 => ?_)
  · simp [ee, decide_eq_true_eq, decide_eq_false_iff_not, Bool.and_eq_true, Bool.or_eq_true, Bool.not_eq_true', Bool.not_eq_false', Bool.and_eq_false_iff, Bool.or_eq_false_iff, bne_iff_ne, beq_iff_eq, beq_eq_false_iff_ne, bne_eq_false_iff_eq, ne_eq, Int.not_lt, Int.not_le, Decidable.not_not] at h1
    rw [if_pos h1]
    refine go rfl hX 0 (by conv => lhs; cbv) ?_ ?_
    · first | exact trivial | (simp only [Cd.ok, ee]; and_intros <;> first | omega | rfl | (simp <;> omega))
    exact fn_ret rfl rfl fz0
  simp [ee, decide_eq_true_eq, decide_eq_false_iff_not, Bool.and_eq_true, Bool.or_eq_true, Bool.not_eq_true', Bool.not_eq_false', Bool.and_eq_false_iff, Bool.or_eq_false_iff, bne_iff_ne, beq_iff_eq, beq_eq_false_iff_ne, bne_eq_false_iff_eq, ne_eq, Int.not_lt, Int.not_le, Decidable.not_not] at h1
  subst h1
  rw [if_neg (by simp)]
  have P45c := P45c rfl
  have P36c := P36c rfl
  refine go rfl hX 0 (by conv => lhs; cbv) ?_ ?_
  · first | exact trivial | (simp only [Cd.ok, ee]; and_intros <;> first | omega | rfl | (simp <;> omega))
  refine on_cond rfl (fun h2 => ?_) (fun h2 => ?_)
  · simp [ee, decide_eq_true_eq, decide_eq_false_iff_not, Bool.and_eq_true, Bool.or_eq_true, Bool.not_eq_true', Bool.not_eq_false', Bool.and_eq_false_iff, Bool.or_eq_false_iff, bne_iff_ne, beq_iff_eq, beq_eq_false_iff_ne, bne_eq_false_iff_eq, ne_eq, Int.not_lt, Int.not_le, Decidable.not_not] at h2
    rw [if_pos (by omega)]
    refine go rfl hX 0 (by conv => lhs; cbv) ?_ ?_
    · first | exact trivial | (simp only [Cd.ok, ee]; and_intros <;> first | omega | rfl | (simp <;> omega))
    exact fn_ret rfl rfl fz0
  simp [ee, decide_eq_true_eq, decide_eq_false_iff_not, Bool.and_eq_true, Bool.or_eq_true, Bool.not_eq_true', Bool.not_eq_false', Bool.and_eq_false_iff, Bool.or_eq_false_iff, bne_iff_ne, beq_iff_eq, beq_eq_false_iff_ne, bne_eq_false_iff_eq, ne_eq, Int.not_lt, Int.not_le, Decidable.not_not] at h2
  rw [if_neg (by omega)]
  refine go rfl hX 0 (by conv => lhs; cbv) ?_ ?_
  · first | exact trivial | (simp only [Cd.ok, ee]; and_intros <;> first | omega | rfl | (simp <;> omega))
  refine on_pcall rfl rfl rfl P34c (closed1 hcc) ?_
  refine go rfl hX 0 (by conv => lhs; cbv) ?_ ?_
  · first | exact trivial | (simp only [Cd.ok, ee]; and_intros <;> first | omega | rfl | (simp <;> omega))
  refine on_cond rfl (fun h3 => ?_) (fun h3 => ?_)
  · simp [ee, decide_eq_true_eq, decide_eq_false_iff_not, Bool.and_eq_true, Bool.or_eq_true, Bool.not_eq_true', Bool.not_eq_false', Bool.and_eq_false_iff, Bool.or_eq_false_iff, bne_iff_ne, beq_iff_eq, beq_eq_false_iff_ne, bne_eq_false_iff_eq, ne_eq, Int.not_lt, Int.not_le, Decidable.not_not] at h3
    rw [if_pos h3]
    refine go rfl hX 0 (by conv => lhs; cbv) ?_ ?_
    · first | exact trivial | (simp only [Cd.ok, ee]; and_intros <;> first | omega | rfl | (simp <;> omega))
    exact fn_ret rfl rfl fz0
  simp [ee, decide_eq_true_eq, decide_eq_false_iff_not, Bool.and_eq_true, Bool.or_eq_true, Bool.not_eq_true', Bool.not_eq_false', Bool.and_eq_false_iff, Bool.or_eq_false_iff, bne_iff_ne, beq_iff_eq, beq_eq_false_iff_ne, bne_eq_false_iff_eq, ne_eq, Int.not_lt, Int.not_le, Decidable.not_not] at h3
  subst h3
  rw [if_neg (by simp)]
  refine go rfl hX 0 (by conv => lhs; cbv) ?_ ?_
  · first | exact trivial | (simp only [Cd.ok, ee]; and_intros <;> first | omega | rfl | (simp <;> omega))
  refine on_cond rfl (fun h4 => ?_) (fun h4 => ?_)
  · simp [ee, decide_eq_true_eq, decide_eq_false_iff_not, Bool.and_eq_true, Bool.or_eq_true, Bool.not_eq_true', Bool.not_eq_false', Bool.and_eq_false_iff, Bool.or_eq_false_iff, bne_iff_ne, beq_iff_eq, beq_eq_false_iff_ne, bne_eq_false_iff_eq, ne_eq, Int.not_lt, Int.not_le, Decidable.not_not, hcsl] at h4
    rw [if_pos h4]
    refine go rfl hX 0 (by conv => lhs; cbv) ?_ ?_
    · first | exact trivial | (simp only [Cd.ok, ee]; and_intros <;> first | omega | rfl | (simp <;> omega))
    refine fn_ret rfl rfl (.none ?_)
    rw [hse]
    exact .cl (by show AV.closedL [.agg [int se, .isl 3 ec, .isl 2 ep], int 0] = true; exact closed2 hcl rfl)
  simp [ee, decide_eq_true_eq, decide_eq_false_iff_not, Bool.and_eq_true, Bool.or_eq_true, Bool.not_eq_true', Bool.not_eq_false', Bool.and_eq_false_iff, Bool.or_eq_false_iff, bne_iff_ne, beq_iff_eq, beq_eq_false_iff_ne, bne_eq_false_iff_eq, ne_eq, Int.not_lt, Int.not_le, Decidable.not_not, hcsl] at h4
  rw [if_neg h4]
  refine go rfl hX 0 (by conv => lhs; cbv) ?_ ?_
  · first | exact trivial | (simp only [Cd.ok, ee]; and_intros <;> first | omega | rfl | (simp <;> omega))
  refine on_pcall rfl rfl rfl P45c (by simp [AV.closedL, hcp, hcc, AV.closed]; exact ⟨hcp, rfl, hcc⟩) ?_
  refine go rfl hX 0 (by conv => lhs; cbv) ?_ ?_
  · first | exact trivial | (simp only [Cd.ok, ee]; and_intros <;> first | omega | rfl | (simp <;> omega))
  refine on_cond rfl (fun h5 => ?_) (fun h5 => ?_)
  · simp [ee, decide_eq_true_eq, decide_eq_false_iff_not, Bool.and_eq_true, Bool.or_eq_true, Bool.not_eq_true', Bool.not_eq_false', Bool.and_eq_false_iff, Bool.or_eq_false_iff, bne_iff_ne, beq_iff_eq, beq_eq_false_iff_ne, bne_eq_false_iff_eq, ne_eq, Int.not_lt, Int.not_le, Decidable.not_not, hwl] at h5
    rw [if_pos (by omega)]
    refine go rfl hX 0 (by conv => lhs; cbv) ?_ ?_
    · first | exact trivial | (simp only [Cd.ok, ee]; and_intros <;> first | omega | rfl | (simp <;> omega))
    exact fn_ret rfl rfl fz0
  simp [ee, decide_eq_true_eq, decide_eq_false_iff_not, Bool.and_eq_true, Bool.or_eq_true, Bool.not_eq_true', Bool.not_eq_false', Bool.and_eq_false_iff, Bool.or_eq_false_iff, bne_iff_ne, beq_iff_eq, beq_eq_false_iff_ne, bne_eq_false_iff_eq, ne_eq, Int.not_lt, Int.not_le, Decidable.not_not, hwl] at h5
  rw [if_neg (by omega)]
  refine go rfl hX 0 (by conv => lhs; cbv) ?_ ?_
  · first | exact trivial | (simp only [Cd.ok, ee]; and_intros <;> first | omega | rfl | (simp <;> omega))
  refine on_pcall rfl rfl rfl P36c (closed1 hcl2) ?_
  generalize hcz : (ct : Int) = cz
  refine go rfl hX 0 (by conv => lhs; cbv) ?_ ?_
  · first | exact trivial | (simp only [Cd.ok, ee]; and_intros <;> first | omega | rfl | (simp <;> omega))
  refine on_cond rfl (fun h6 => ?_) (fun h6 => ?_)
  · simp [ee, decide_eq_true_eq, decide_eq_false_iff_not, Bool.and_eq_true, Bool.or_eq_true, Bool.not_eq_true', Bool.not_eq_false', Bool.and_eq_false_iff, Bool.or_eq_false_iff, bne_iff_ne, beq_iff_eq, beq_eq_false_iff_ne, bne_eq_false_iff_eq, ne_eq, Int.not_lt, Int.not_le, Decidable.not_not] at h6
    rw [if_pos (by omega)]
    refine go rfl hX 0 (by conv => lhs; cbv) ?_ ?_
    · first | exact trivial | (simp only [Cd.ok, ee]; and_intros <;> first | omega | rfl | (simp <;> omega))
    exact fn_ret rfl rfl fz0
  simp [ee, decide_eq_true_eq, decide_eq_false_iff_not, Bool.and_eq_true, Bool.or_eq_true, Bool.not_eq_true', Bool.not_eq_false', Bool.and_eq_false_iff, Bool.or_eq_false_iff, bne_iff_ne, beq_iff_eq, beq_eq_false_iff_ne, bne_eq_false_iff_eq, ne_eq, Int.not_lt, Int.not_le, Decidable.not_not] at h6
  rw [if_neg (by omega)]
  refine go rfl hX 0 (by conv => lhs; cbv) ?_ ?_
  · first | exact trivial | (simp only [Cd.ok, ee]; and_intros <;> first | omega | rfl | (simp <;> omega))
  refine fn_ret rfl rfl (.none ?_)
  rw [henc2]
  exact .cl (by show AV.closedL [.agg [int se, .isl 3 ec, .isl 2 ewl], int 0] = true; exact closed2 hcl2 rfl)
end Go.Am
end
section
set_option linter.unusedVariables false
set_option linter.unusedSimpArgs false
set_option maxRecDepth 20000
namespace Go.Am
open Go.Proofs

def upto (e : Int) (l : List Bat) : List Bat := l.filter fun b => decide (b.epoch ≤ e)
def beyond (e : Int) (l : List Bat) : List Bat := l.filter fun b => !decide (b.epoch ≤ e)
noncomputable def abortF (s : Snk) (e : Int) : Snk × Int :=
  if checkF s ≠ 0 then (Snk0, checkF s) else if e < s.epoch ∨ 1099511627776 < e then (Snk0, 29) else (⟨s.epoch, s.com, upto e s.pend⟩, 0)
noncomputable def commitF (s : Snk) (e : Int) : Snk × Int :=
  if checkF s ≠ 0 then (Snk0, checkF s) else if e < 0 ∨ 1099511627776 < e then (Snk0, 29) else if e < s.epoch then (s, 0) else (⟨e, s.com ++ pendF (upto e s.pend), beyond e s.pend⟩, 0)

theorem upto_snoc (e : Int) (d : List Bat) (b : Bat) : upto e (d ++ [b]) = upto e d ++ (if b.epoch ≤ e then [b] else []) := by
  unfold upto; rw [List.filter_append]; by_cases h : b.epoch ≤ e <;> simp [h]
theorem beyond_snoc (e : Int) (d : List Bat) (b : Bat) : beyond e (d ++ [b]) = beyond e d ++ (if b.epoch ≤ e then [] else [b]) := by
  unfold beyond; rw [List.filter_append]; by_cases h : b.epoch ≤ e <;> simp [h] <;> omega
theorem sumL_upto (e : Int) (l : List Bat) : sumL (upto e l) ≤ sumL l := by
  induction l with
  | nil => simp [upto, sumL]
  | cons b r ih =>
    have h : upto e (b :: r) = if b.epoch ≤ e then b :: upto e r else upto e r := by unfold upto; by_cases h : b.epoch ≤ e <;> simp [h]
    rw [h]; split <;> simp only [sumL] <;> omega

theorem P27 (s : Snk) (e : Int) (hf : s.Fine) (hc : countF s < 1152921504606846976) : PCall EE 27 [s.enc, int e] (.tup [(abortF s e).1.enc, int (abortF s e).2]) := by
  have P13c := P13 s hf hc
  have hlen := fun h : checkF s = 0 => (check_ok h).2.2.1
  have hcl := Snk.closed s
  have hcom := closedC s.com
  have hadd : abortF s e = abortF s e := rfl
  unfold abortF at hadd ⊢
  clear hadd
  generalize hck : checkF s = ck at P13c hlen ⊢
  have henc : s.enc = .agg [int s.epoch, .isl 3 (mapE Chg.enc s.com), .isl 2 (mapE Bat.enc s.pend)] := rfl
  have hres : (⟨s.epoch, s.com, upto e s.pend⟩ : Snk).enc = .agg [int s.epoch, .isl 3 (mapE Chg.enc s.com), .isl 2 (mapE Bat.enc (upto e s.pend))] := rfl
  refine words fun iLt iLe iEq iNe iAdd iSub iMul iQuo iRem iShr iNeg iCvt iMax iMin bNot bEq bNe bAnd bOr sEq sNe sLen sCat sCut sAt lenA lenN iOf natOf atA atN cutA partA dropA catA setA repA putA idxN addN subN minN lenCut hX e_iLt e_iLe e_iEq e_iNe e_iAdd e_iSub e_iMul e_iQuo e_iRem e_iShr e_iNeg e_iCvt e_iMax e_iMin e_bNot e_bEq e_bNe e_bAnd e_bOr e_sEq e_sNe e_sLen e_sCat e_sCut e_sAt e_lenA e_lenN e_iOf e_natOf e_atA e_atN e_cutA e_partA e_dropA e_catA e_setA e_repA e_putA e_idxN e_addN e_subN e_minN e_lenCut ee => ?_
  rw [henc] at P13c hcl ⊢
  generalize hec : mapE Chg.enc s.com = ec at *
  generalize hep : mapE Bat.enc s.pend = ep at *
  have hpl : ep.length = s.pend.length := by rw [← hep, mapE_len]
  have hcpe : (AV.isl 2 ep).closed = true := by rw [← hep]; exact closedB _
  generalize hsp : s.epoch = se at *
  refine fn_body (fn := Try.f27) (n := 55) (ac := Tryc27) (rvs := [.cell 4 3 true, .t 5]) rfl (by decide) Tryp27 rfl rfl rfl ?_
  refine go rfl hX 0 (by conv => lhs; cbv) ?_ ?_
  · first | exact trivial | (simp only [Cd.ok, ee]; and_intros <;> first | omega | rfl | (simp <;> omega))
  refine on_pcall rfl rfl rfl P13c (closed1 hcl) ?_
  refine go rfl hX 0 (by conv => lhs; cbv) ?_ ?_
  · first | exact trivial | (simp only [Cd.ok, ee]; and_intros <;> first | omega | rfl | (simp <;> omega))
  refine on_cond rfl (fun h1 => ?_) (fun h1 => ?_)
  · simp [ee, decide_eq_true_eq, decide_eq_false_iff_not, Bool.and_eq_true, Bool.or_eq_true, Bool.not_eq_true', Bool.not_eq_false', Bool.and_eq_false_iff, Bool.or_eq_false_iff, bne_iff_ne, beq_iff_eq, beq_eq_false_iff_ne, bne_eq_false_iff_eq, ne_eq, Int.not_lt, Int.not_le, Decidable.not_not] at h1
    rw [if_pos h1]
    refine go rfl hX 0 (by conv => lhs; cbv) ?_ ?_
    · first | exact trivial | (simp only [Cd.ok, ee]; and_intros <;> first | omega | rfl | (simp <;> omega))
    exact fn_ret rfl rfl fz0
  simp [ee, decide_eq_true_eq, decide_eq_false_iff_not, Bool.and_eq_true, Bool.or_eq_true, Bool.not_eq_true', Bool.not_eq_false', Bool.and_eq_false_iff, Bool.or_eq_false_iff, bne_iff_ne, beq_iff_eq, beq_eq_false_iff_ne, bne_eq_false_iff_eq, ne_eq, Int.not_lt, Int.not_le, Decidable.not_not] at h1
  subst h1
  rw [if_neg (by simp)]
  have hlen := hlen rfl
  refine go rfl hX 0 (by conv => lhs; cbv) ?_ ?_
  · first | exact trivial | (simp only [Cd.ok, ee]; and_intros <;> first | omega | rfl | (simp <;> omega))
  refine on_cond rfl (fun h2 => ?_) (fun h2 => ?_)
  · simp [ee, decide_eq_true_eq, decide_eq_false_iff_not, Bool.and_eq_true, Bool.or_eq_true, Bool.not_eq_true', Bool.not_eq_false', Bool.and_eq_false_iff, Bool.or_eq_false_iff, bne_iff_ne, beq_iff_eq, beq_eq_false_iff_ne, bne_eq_false_iff_eq, ne_eq, Int.not_lt, Int.not_le, Decidable.not_not] at h2
    rw [if_pos (by omega)]
    refine go rfl hX 0 (by conv => lhs; cbv) ?_ ?_
    · first | exact trivial | (simp only [Cd.ok, ee]; and_intros <;> first | omega | rfl | (simp <;> omega))
    exact fn_ret rfl rfl fz0
  simp [ee, decide_eq_true_eq, decide_eq_false_iff_not, Bool.and_eq_true, Bool.or_eq_true, Bool.not_eq_true', Bool.not_eq_false', Bool.and_eq_false_iff, Bool.or_eq_false_iff, bne_iff_ne, beq_iff_eq, beq_eq_false_iff_ne, bne_eq_false_iff_eq, ne_eq, Int.not_lt, Int.not_le, Decidable.not_not] at h2
  rw [if_neg (by omega)]
  refine go rfl hX 0 (by conv => lhs; cbv) ?_ ?_
  · first | exact trivial | (simp only [Cd.ok, ee]; and_intros <;> first | omega | rfl | (simp <;> omega))
  refine on_loopP (ι := List Bat × List Bat × Int × Nat × List AV) (fun p => ([(8, int p.2.2.1), (1, int e), (2, .ptr 0 0), (4, .ptr 1 0), (7, .ptr 2 0)], [.cells [int se, .isl 3 ec, .isl 2 ep], .cells [int 0, .val (.slice none 0 0), .val (.slice none 0 0)], .cells [int se, .isl 3 ec, .sl 3 2 0 p.2.2.2.1], .arr 2 p.2.2.2.2]))
    (fun p => s.pend = p.1 ++ p.2.1 ∧ p.2.2.1 = p.1.length ∧ p.2.2.2.1 = (upto e p.1).length ∧ p.2.2.2.2 = mapE Bat.enc (upto e p.1)) (fun p => p.2.1.length) ([], s.pend, 0, 0, []) ⟨rfl, rfl, rfl, by simp [mapE_eq, upto]⟩
    (ent_sub [.to 0, .to 1, .to 2] [some 0, some 1, some 2, none] ⟨⟨by simp, rfl⟩, ⟨by simp, rfl⟩, ⟨by simp, rfl⟩, trivial⟩
      ⟨osrc_cells (b := 0) rfl rfl rfl ⟨.refl _, .cl hcom, .cl hcpe, trivial⟩, osrc_cells (b := 1) rfl rfl rfl ⟨.refl _, .refl _, .refl _, trivial⟩, osrc_cells (b := 2) rfl rfl rfl ⟨.refl _, .cl hcom, .nilS 3 2 0 (by simp), trivial⟩, .none 2 rfl, trivial⟩ ⟨.refl _, .refl _, .refl _, .refl _, .refl _, trivial⟩) ?_
  rintro ⟨d, r, i, n, es⟩ ⟨g1, gi, gn, ge⟩
  dsimp only at g1 gi gn ge ⊢
  have hesl : es.length = n := by rw [ge, mapE_len, gn]
  cases r with
  | nil =>
    have L1 := len_split g1
    try simp only [List.length_cons, List.length_nil] at L1
    have hcd : iLt i (lenA ep) = false := lt_f e_iLt e_lenA (by omega)
    refine go rfl hX 1 (by conv => lhs; cbv; simp only [hcd]; cbv) ?_ ?_
    · first | exact trivial | (simp only [Cd.ok, ee]; and_intros <;> first | omega | rfl | (simp <;> omega))
    refine loopP_exit ?_
    refine go rfl hX 0 (by conv => lhs; cbv) ?_ ?_
    · first | exact trivial | (simp only [Cd.ok, ee]; and_intros <;> first | omega | rfl | (simp <;> omega))
    rw [List.append_nil] at g1
    refine fn_ret rfl rfl ⟨[.gone, .gone, .gone, .isl 2 es], ⟨trivial, trivial, trivial, ⟨es, rfl, (subL_closed _ (by rw [ge]; exact closed_mapE Bat.closed _)).symm⟩, trivial⟩, ?_⟩
    rw [hres, g1, ← ge]
    exact .tup' ⟨.agg' ⟨.refl _, .cl hcom, .of (sub_whole rfl hesl.symm), trivial⟩, .refl _, trivial⟩
  | cons b r =>
    have L1 := len_split g1
    try simp only [List.length_cons, List.length_nil] at L1
    have hcd : iLt i (lenA ep) = true := lt_t e_iLt e_lenA (by omega)
    have ha := el_at e_atA hep g1 gi
    have hbenc : Bat.enc b = .agg [int b.epoch, .isl 3 (mapE Chg.enc b.cs)] := rfl
    have hbc := Bat.closed b
    have hus := upto_snoc e d b
    have hul : (upto e d).length ≤ d.length := List.length_filter_le _ _
    rw [hbenc] at ha
    generalize hbs : mapE Chg.enc b.cs = ebs at ha hbenc
    generalize hbe : b.epoch = be at ha hbenc hus
    refine go rfl hX 1 (by conv => lhs; cbv; simp only [hcd,ha]; cbv; simp only [hcd,ha]; cbv) ?_ ?_
    · first | exact trivial | (simp only [Cd.ok, ee]; and_intros <;> first | omega | rfl | (simp <;> omega))
    refine on_cond rfl (fun h3 => ?_) (fun h3 => ?_)
    · simp [ee, decide_eq_true_eq, decide_eq_false_iff_not, Bool.and_eq_true, Bool.or_eq_true, Bool.not_eq_true', Bool.not_eq_false', Bool.and_eq_false_iff, Bool.or_eq_false_iff, bne_iff_ne, beq_iff_eq, beq_eq_false_iff_ne, bne_eq_false_iff_eq, ne_eq, Int.not_lt, Int.not_le, Decidable.not_not] at h3
      rw [if_pos h3] at hus
      refine go rfl hX 0 (by conv => lhs; cbv; simp only [ha]; cbv) ?_ ?_
      · first | exact trivial | (simp only [Cd.ok, ee]; and_intros <;> first | omega | rfl | (simp <;> omega))
      refine tr_draw rfl rfl ?_
      refine tr_go hX (by conv => lhs; cbv; simp only [ha]; cbv) ?_ ?_
      · first | exact trivial | (simp only [Cd.ok, ee]; and_intros <;> first | omega | rfl | (simp <;> omega))
      refine tr_nil ⟨rfl, ?_, ?_⟩
      · simp only [LooksL, lookAll, List.append, List.cons_append, List.nil_append, List.append_nil]; and_intros <;> first | trivial | (intro hp; first | rfl | exact absurd (show false = true from hp) Bool.false_ne_true)
      refine go rfl hX 0 (by conv => lhs; cbv) ?_ ?_
      · first | exact trivial | (simp only [Cd.ok, ee]; and_intros <;> first | omega | rfl | (simp <;> omega))
      refine loopP_next (d ++ [b], r, iAdd .i64 i 1, n + 1, mapE Bat.enc (upto e (d ++ [b]))) ⟨by simp [g1], ?_, by dsimp only; rw [hus, gn]; simp, rfl⟩ (by simp)
        (ent_sub [.to 0, .to 1, .to 2, .gone, .gone, .to 3] [some 0, some 1, some 2, some 5] ⟨⟨by simp, rfl⟩, ⟨by simp, rfl⟩, ⟨by simp, rfl⟩, trivial, trivial, ⟨by simp, rfl⟩, trivial⟩
          ⟨osrc_cells (b := 0) rfl rfl rfl ⟨.refl _, .cl hcom, .cl hcpe, trivial⟩, osrc_cells (b := 1) rfl rfl rfl ⟨.refl _, .refl _, .refl _, trivial⟩, osrc_cells (b := 2) rfl rfl rfl ⟨.refl _, .cl hcom, .of ?_, trivial⟩, osrc_arr (b := 5) rfl rfl rfl ?_ (closed_mapE Bat.closed _), trivial⟩ ⟨.refl _, .refl _, .refl _, .refl _, .refl _, trivial⟩)
      · simp only [List.length_append, List.length_cons, List.length_nil]; exact inc_w e_iAdd gi (by omega)
      · simp only [ee]; rfl
      · simp only [ee]
        show es.drop 0 ++ [AV.agg [.val (.int .i64 be), .isl 3 ebs]] = _
        rw [List.drop_zero, ge, ← hbenc, mapE_snoc, hus]
    · simp [ee, decide_eq_true_eq, decide_eq_false_iff_not, Bool.and_eq_true, Bool.or_eq_true, Bool.not_eq_true', Bool.not_eq_false', Bool.and_eq_false_iff, Bool.or_eq_false_iff, bne_iff_ne, beq_iff_eq, beq_eq_false_iff_ne, bne_eq_false_iff_eq, ne_eq, Int.not_lt, Int.not_le, Decidable.not_not] at h3
      rw [if_neg (by omega)] at hus
      rw [List.append_nil] at hus
      refine go rfl hX 0 (by conv => lhs; cbv) ?_ ?_
      · first | exact trivial | (simp only [Cd.ok, ee]; and_intros <;> first | omega | rfl | (simp <;> omega))
      refine loopP_next (d ++ [b], r, iAdd .i64 i 1, n, es) ⟨by simp [g1], ?_, by dsimp only; rw [hus, gn], by dsimp only; rw [hus, ge]⟩ (by simp) (ent_fw ⟨.refl _, .refl _, .refl _, .refl _, .refl _, trivial⟩)
      simp only [List.length_append, List.length_cons, List.length_nil]; exact inc_w e_iAdd gi (by omega)
end Go.Am
end
